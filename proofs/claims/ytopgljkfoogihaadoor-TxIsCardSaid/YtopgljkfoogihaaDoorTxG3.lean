/- tx.Get: the walk. -/
import Derived.Test.YtopgljkfoogihaaDoorTxG2
import Derived.Test.YtopgljkfoogihaaDoorRelG
import Derived.Deep.CutRange
import Derived.Deep.CutBlock
namespace Go.Proofs.YtopgljkfoogihaaDoor
open Go.RowKit

/-- a transaction as a value -/
def TxV (w : World) (T : TTx) (v : Value) : Prop := ∃ (A1 A2 : Option Addr) (n1 n2 c1 c2 : Nat) (l : List (TIn × Sl)) (m : List (TOut × Sl)), v = .agg #[.int .u32 (T.ver : Int), .slice A1 n1 c1, .slice A2 n2 c2, .int .u32 (T.lock : Int)] ∧
  l.length = n1 ∧ m.length = n2 ∧ n1 ≤ c1 ∧ n2 ≤ c2 ∧ RdIns w A1 l ∧ RdOuts w A2 m ∧ l.map (·.1) = T.ins ∧ m.map (·.1) = T.outs ∧ T.ver < 4294967296 ∧ T.lock < 4294967296
theorem zeros_map : (List.replicate 32 (0 : UInt8)).map bv = List.replicate 32 (.int .u8 0) := by simp
theorem pad_cells (p : List UInt8) (hp : p.length ≤ 32) (r l : List Value) (hl : l = List.replicate 32 (Value.int .u8 0) ++ r) : l.take 0 ++ p.map bv ++ l.drop (0 + (p.map bv).length) = (padH p).map bv ++ r := by
  subst hl
  rw [List.take_zero, List.nil_append, Nat.zero_add, List.length_map, List.drop_append_of_le_length (by simpa using hp), List.drop_replicate, padH, List.map_append, List.map_replicate, List.append_assoc]
  rfl

set_option maxRecDepth 100000 in
set_option maxHeartbeats 8000000 in
theorem TGet (bs : List UInt8) (A : Option Addr) (n c : Nat) (hn : bs.length = n) (hnc : n ≤ c) (hm : n ≤ 1000000000) (w : World) (hr : Rd w A (bs.map bv)) :
    Calls Tryd.prog 14 #[.slice A n c] w fun r w' => (∃ v, r = .returned (.tuple #[v, .int .i64 ((txGet bs).2.1 : Int), .int .i64 ((txGet bs).2.2 : Int)]) ∧ TxV w' (txGet bs).1 v) ∧ Below w.heap.size w w' := by
  obtain ⟨R, hR⟩ : ∃ R, R = txGet bs := ⟨_, rfl⟩
  rw [← hR]
  unfold txGet at hR
  obtain ⟨x0, a1, e1, h0⟩ : ∃ x a e, sTake bs 0 0 4 = (x, a, e) := ⟨_, _, _, rfl⟩
  have z1 := sTake_le bs 0 0 4 (by omega)
  rw [h0] at z1
  obtain ⟨N, a2, e2, h1⟩ : ∃ N a e, sCount bs a1 e1 1000 = (N, a, e) := ⟨_, _, _, rfl⟩
  have z2 := sCount_le bs a1 e1 1000 z1.1
  rw [h1] at z2
  obtain ⟨e3, h3⟩ : ∃ e3, e3 = if e2 = 0 ∧ N = 0 then 2 else e2 := ⟨_, rfl⟩
  obtain ⟨ins, a4, e4, h4⟩ : ∃ i a e, gMany (gIn bs) N a2 e3 = (i, a, e) := ⟨_, _, _, rfl⟩
  obtain ⟨M, a5, e5, h5⟩ : ∃ N a e, sCount bs a4 e4 1000 = (N, a, e) := ⟨_, _, _, rfl⟩
  obtain ⟨outs, a6, e6, h6⟩ : ∃ i a e, gMany (gOut bs) M a5 e5 = (i, a, e) := ⟨_, _, _, rfl⟩
  obtain ⟨x7, a7, e7, h7⟩ : ∃ x a e, sTake bs a6 e6 4 = (x, a, e) := ⟨_, _, _, rfl⟩
  simp only [h0, h1, ← h3, h4, h5, h6, h7] at hR
  simp only at z1 z2
  rw [hn] at z1 z2
  obtain ⟨V, hV⟩ : ∃ V : Int, V = (Cm.le x0 : Int) := ⟨_, rfl⟩
  have v0 : 0 ≤ V := by omega
  have v1 : V < 4294967296 := by have := le_lt_of x0 4 z1.2; omega
  obtain ⟨H, hH⟩ : ∃ H, H = w.heap.size := ⟨_, rfl⟩
  have T0 := fun g5 w' hB hgs h5 hA => TNum bs A n c hn hnc (by omega) 0 0 4 (by omega) (by omega) (H + 1) g5 w w' hr hB (by omega) h5 hA
  rw [h0, ← hV] at T0
  have T1 := fun w' hB hA => TCount bs A n c hn hnc (by omega) a1 e1 1000 z1.1 (H + 1) w w' hr hB hA
  rw [h1, show ((1000 : Nat) : Int) = 1000 from rfl] at T1
  replace T0 := Lib.hid T0
  replace T1 := Lib.hid T1
  replace hn := Lib.hid hn
  replace h3 := Lib.hid h3
  replace h4 := Lib.hid h4
  replace h5 := Lib.hid h5
  replace h6 := Lib.hid h6
  replace h7 := Lib.hid h7
  replace hR := Lib.hid hR
  replace hV := Lib.hid hV
  clear h0 h1
  go_enter Tryd.func14, Tryd.ntmps14
  go_upto_region 4 with fail
  obtain ⟨W, hW⟩ : ∃ W, W = (((w.alloc (.cells #[.int .u32 0, .slice none 0 0, .slice none 0 0, .int .u32 0] 36)).alloc (.cells #[.slice A n c, .int .i64 0, .int .i64 0] 72)).alloc (.cells #[.pointer (some ⟨w.heap.size + 1, 0, none⟩)] 70)).alloc (.cells #[.int .u32 0, .slice none 0 0, .slice none 0 0, .int .u32 0] 36) := ⟨_, rfl⟩
  rw [← hW]
  rw [← hH]
  rw [show H + 1 + 1 + 1 = H + 3 from rfl, show H + 1 + 1 = H + 2 from rfl]
  have G0 : GSt A n c H w W 0 0 0 [] [] (.slice none 0 0) (.slice none 0 0) := by
    have e : ∀ (v : World) (o : Obj), (v.alloc o).heap.size = v.heap.size + 1 := fun v o => by simp
    have q2 := heap_alloc_new ((w.alloc (.cells #[.int .u32 0, .slice none 0 0, .slice none 0 0, .int .u32 0] 36)).alloc (.cells #[.slice A n c, .int .i64 0, .int .i64 0] 72)) (.cells #[.pointer (some ⟨w.heap.size + 1, 0, none⟩)] 70)
    have q3 := heap_alloc_new (((w.alloc (.cells #[.int .u32 0, .slice none 0 0, .slice none 0 0, .int .u32 0] 36)).alloc (.cells #[.slice A n c, .int .i64 0, .int .i64 0] 72)).alloc (.cells #[.pointer (some ⟨w.heap.size + 1, 0, none⟩)] 70)) (.cells #[.int .u32 0, .slice none 0 0, .slice none 0 0, .int .u32 0] 36)
    rw [e, e] at q2
    rw [e, e, e] at q3
    refine ⟨?_, ?_, ?_, ?_, World.ownsRow_nil _ _ _ _, World.ownsRow_nil _ _ _ _, fun x hx => (by cases hx), fun x hx => (by cases hx), fun k hk => (by simp [Value.ownBlock] at hk), by rw [hW, e, e, e, e]; omega, hH.symm, ?_⟩
    · rw [hW, hH]; exact Av.alloc (Av.alloc (heap_alloc2_old _ _ _) _) _
    · rw [hW, hH]; exact Av.alloc (Av.alloc (heap_alloc2_new _ _ _) _) _
    · rw [hW, hH]; exact Av.alloc q2 _
    · rw [hW, hH]; exact q3
    · rw [hW, hH]; exact ((((Below.refl _ _).alloc (Nat.le_refl _) _).alloc (by simp) _).alloc (by simp; omega) _).alloc (by simp; omega) _
  clear hW
  have hcall := T0.out (H + 2) W G0.base (by omega) G0.p G0.s
  replace hH := Lib.hid hH
  replace G0 := Lib.hid G0
  go_wp2_with fail
  refine hcall.mono ?_
  rintro r W1 ⟨rfl, hS1⟩
  have G1 := G0.out.src hS1
  clear hcall hS1 G0 T0
  have hc0 := G1.t.cell 0 _ rfl
  have hf0 := frozen_of_row _ _ 0 _ _ G1.t
  have hcp := G1.p.cell 0 _ rfl
  replace G1 := Lib.hid G1
  go_wp2_with fail
  have G2 := G1.out.setv V
  clear hc0 hf0 hcp G1
  generalize W1.setCell ⟨H + 3, 0, none⟩ (.int .u32 V) = W2 at *
  have hcall := T1.out W2 G2.base G2.s
  replace G2 := Lib.hid G2
  refine hcall.mono ?_
  rintro r W3 ⟨rfl, hS3⟩
  have G3 := G2.out.src hS3
  clear hcall hS3 G2 T1
  have hcp := G3.p.cell 0 _ rfl
  have hcs := G3.s.cell 2 _ rfl
  replace G3 := Lib.hid G3
  go_upto_region 6 with fail
  obtain ⟨z, hz⟩ : ∃ z : Bool, z = decide (e2 = 0 ∧ N = 0) := ⟨_, rfl⟩
  go_cut [32] from 14 (fun s wc => s = .bool z ∧ wc = W3)
  case first =>
    by_cases he : e2 = 0
    · have t1 : ((e2 : Int) == 0) = true := by simp [he]
      by_cases hN : N = 0
      · have t2 : ((N : Int) == 0) = true := by simp [hN]
        obtain rfl : z = true := by rw [hz]; simp [he, hN]
        clear hz he hN
        go_wp2_with fail
        go_meet
        exact ⟨rfl, rfl⟩
      · have t2 : ((N : Int) == 0) = false := by simp; omega
        obtain rfl : z = false := by rw [hz]; simp [hN]
        clear hz he hN
        go_wp2_with fail
        go_meet
        exact ⟨rfl, rfl⟩
    · have t1 : ((e2 : Int) == 0) = false := by simp; omega
      obtain rfl : z = false := by rw [hz]; simp [he]
      clear hz he
      go_wp2_with fail
      go_meet
      exact ⟨rfl, rfl⟩
  case rest =>
    obtain ⟨rfl, rfl⟩ := hcut
    clear hcp hcs
    go_upto_if 32 with fail
    go_cut [] from 14 (fun wc => GSt A n c H w wc a2 e3 V [] [] (.slice none 0 0) (.slice none 0 0))
    case first =>
      have G3' := G3.out
      have h3' := h3.out
      cases z
      · have e23 : e3 = e2 := by
          have : ¬ (e2 = 0 ∧ N = 0) := by simpa using hz.symm
          rw [h3', if_neg this]
        rw [← e23] at G3'
        clear h3' hz e23
        go_wp2_with fail
        go_meet
        exact G3'
      · have e23 : e3 = 2 := by
          have : e2 = 0 ∧ N = 0 := by simpa using hz.symm
          rw [h3', if_pos this]
        have hcp := G3'.p.cell 0 _ rfl
        have hcs := G3'.s.cell 2 _ rfl
        have hcf := frozen_of_row _ _ 2 _ _ G3'.s
        have G4 : GSt A n c H w (wc.setCell ⟨H + 1, 2, none⟩ (.int .i64 2)) a2 e3 V [] [] (.slice none 0 0) (.slice none 0 0) := by
          rw [e23]
          exact G3'.on (G3'.s.set 2 _) (Fr.setCell wc ⟨H + 1, 2, none⟩ (.int .i64 2))
        clear h3' hz e23 G3'
        replace G4 := Lib.hid G4
        go_wp2_with fail
        go_meet
        exact G4.out
    case rest =>
      clear G3 hz h3
      have G4 := Lib.hid hcut
      clear hcut
      go_upto_block 0 with fail
      go_cut [] from 14 (fun wc => ∃ (l : List (TIn × Sl)) (v1 : Value), GSt A n c H w wc a4 e4 V l [] v1 (.slice none 0 0) ∧ l.map (·.1) = ins ∧ a4 ≤ n)
      case first =>
        go_wp2_with fail
        go_loopw [9, 10] (fun i _ wr => ∃ (k a e : Nat) (l : List (TIn × Sl)) (v1 : Value), k ≤ N ∧ i = .int .i64 (k : Int) ∧ a ≤ n ∧ Hid (GSt A n c H w wr a e V l [] v1 (.slice none 0 0)) ∧ l.length = k ∧ Hid (gMany (gIn bs) N a2 e3 = (l.map (·.1) ++ (gMany (gIn bs) (N - k) a e).1, (gMany (gIn bs) (N - k) a e).2))) (fun i _ _ => N - (intOf i).toNat)
        case atStart => exact ⟨0, a2, e3, [], .slice none 0 0, by omega, rfl, z2.1, G4, rfl, Lib.hid (by simp)⟩
        case round =>
          clear G4
          obtain ⟨k, a, e, l, v1, hk, rfl, han, GS, hlk, hMany⟩ := hrel
          have hcp := GS.out.p.cell 0 _ rfl
          have hcs := GS.out.s.cell 2 _ rfl
          by_cases hgo : k < N
          · have t1 : decide ((k : Int) < (N : Int)) = true := by simp; omega
            by_cases he : e = 0
            · subst he
              obtain ⟨p1, a1', e1', q1⟩ : ∃ X Y Z, sTake bs a 0 32 = (X, Y, Z) := ⟨_, _, _, rfl⟩
              have y1 := sTake_le bs a 0 32 (by rw [hn.out]; exact han)
              rw [q1] at y1
              obtain ⟨i2, a2', e2', q2⟩ : ∃ X Y Z, sTake bs a1' e1' 4 = (X, Y, Z) := ⟨_, _, _, rfl⟩
              have y2 := sTake_le bs a1' e1' 4 y1.1
              rw [q2] at y2
              obtain ⟨s3, a3', e3', q3⟩ : ∃ X Y Z, sScript bs a2' e2' = (X, Y, Z) := ⟨_, _, _, rfl⟩
              have y3 := sScript_le bs a2' e2' y2.1
              rw [q3] at y3
              obtain ⟨i4, a4', e4', q4⟩ : ∃ X Y Z, sTake bs a3' e3' 4 = (X, Y, Z) := ⟨_, _, _, rfl⟩
              have y4 := sTake_le bs a3' e3' 4 y3
              rw [q4] at y4
              simp only at y1 y2 y3 y4
              rw [hn.out] at y1 y2 y3 y4
              have hgin : gIn bs a 0 = (⟨padH p1, Cm.le i2, s3, Cm.le i4⟩, a4', e4') := by simp only [gIn, q1, q2, q3, q4]
              obtain ⟨I, hI⟩ : ∃ I : Int, I = (Cm.le i2 : Int) := ⟨_, rfl⟩
              obtain ⟨Q, hQ⟩ : ∃ Q : Int, Q = (Cm.le i4 : Int) := ⟨_, rfl⟩
              have I0 : 0 ≤ I := by omega
              have I1 : I < 4294967296 := by have := le_lt_of i2 4 y2.2; omega
              have Q0 : 0 ≤ Q := by omega
              have Q1 : Q < 4294967296 := by have := le_lt_of i4 4 y4.2; omega
              have C1 := fun w' hA => TTake bs A n c hn.out hnc (by omega) a 0 32 han (by omega) (H + 1) w' hA
              rw [q1, show ((32 : Nat) : Int) = 32 from rfl] at C1
              have C2 := fun w' hB h5 hA => TNum bs A n c hn.out hnc (by omega) a1' e1' 4 y1.1 (by omega) (H + 1) (H + 2) w w' hr hB (by have := hH.out; omega) h5 hA
              rw [q2, ← hI, show ((4 : Nat) : Int) = 4 from rfl] at C2
              have C3 := fun w' hB hA => TScript bs A n c hn.out hnc (by omega) a2' e2' y2.1 (H + 1) w w' hr hB hA
              rw [q3] at C3
              have C4 := fun w' hB h5 hA => TNum bs A n c hn.out hnc (by omega) a3' e3' 4 y3 (by omega) (H + 1) (H + 2) w w' hr hB (by have := hH.out; omega) h5 hA
              rw [q4, ← hQ, show ((4 : Nat) : Int) = 4 from rfl] at C4
              replace C1 := Lib.hid C1
              replace C2 := Lib.hid C2
              replace C3 := Lib.hid C3
              replace C4 := Lib.hid C4
              replace hI := Lib.hid hI
              replace hQ := Lib.hid hQ
              replace hgin := Lib.hid hgin
              replace hlk := Lib.hid hlk
              clear q1 q2 q3 q4
              go_upto_region 12 with fail
              obtain ⟨gi, hgi⟩ : ∃ gi, gi = wr.heap.size := ⟨_, rfl⟩
              obtain ⟨zi, hzi⟩ : ∃ zi : List Value, zi = List.replicate 32 (Value.int .u8 0) ++ [.int .u32 0, .slice none 0 0, .int .u32 0] := ⟨_, rfl⟩
              obtain ⟨wg, hwg⟩ : ∃ wg, wg = wr.alloc (.cells zi.toArray 58) := ⟨_, rfl⟩
              have hgoal := hwg
              rw [hzi] at hgoal
              simp only [List.replicate_succ, List.replicate_zero, List.cons_append, List.nil_append] at hgoal
              rw [← hgoal, ← hgi]
              clear hgoal
              have a10 : Av wg gi 58 zi := by rw [hwg, hgi]; exact heap_alloc_new _ _
              have b10 : Below wr.heap.size wr wg := by rw [hwg]; exact (Below.refl _ _).alloc (Nat.le_refl _) _
              have Gg := GS.out.below b10
              have hgiH : H + 4 ≤ gi := by rw [hgi]; exact GS.out.hb
              have hwg2 : gi < wg.heap.size := a10.lt
              clear hwg hcp hcs
              replace hgi := Lib.hid hgi
              refine region_call_copy (by kernel_rfl) rfl ⟨rfl, rfl, rfl, rfl, rfl⟩ ⟨rfl, rfl, rfl, rfl, rfl⟩ (by decide) (by simp) (by kernel_rfl) (by kernel_rfl) (by kernel_rfl) (by kernel_rfl) (by kernel_rfl) (by kernel_rfl) (by kernel_rfl) (by kernel_rfl) (by kernel_rfl) (by kernel_rfl) 10 5 (by decide) (by decide) (.pointer (some ⟨gi, 0, none⟩)) (.slice (some ⟨gi, 0, none⟩) 32 32) (.pointer (some ⟨H + 1, 0, none⟩))
                (fun v w1 => OutOf A bs p1 v ∧ SrcTo (H + 1) (srcc A n c a1' e1') wg.drew w1) (fun w2 => Av w2 (H + 1) 72 (srcc A n c a1' e1') ∧ Av w2 gi 58 ((padH p1).map bv ++ [.int .u32 0, .slice none 0 0, .int .u32 0]) ∧ Fr (fun k => k = H + 1) wr w2) ?e0 ?e1 ?e2 ?e3 ?e4 ?k
              case e0 =>
                intro a' w' h
                have h' := eval_tmp (v := .pointer (some ⟨gi, 0, none⟩)) h
                go_simp
              case e1 =>
                intro a' w' h
                have h' := eval_tmp h
                go_simp
              case e2 =>
                intro a' h
                have h' := eval_tmp (v := .pointer (some ⟨H + 2, 0, none⟩)) h
                have hcp : wg.drew.cell? ⟨H + 2, 0, none⟩ = some (.pointer (some ⟨H + 1, 0, none⟩)) := Gg.p.cell 0 _ rfl
                go_simp
              case e3 =>
                intro a' K h hK
                have hc := C1.out wg.drew Gg.s
                have h' := eval_tmp h
                unfold Oper.wp
                go_simp
                refine hc.mono ?_
                rintro r w1 ⟨⟨v, rfl, hv⟩, hS⟩
                exact hK v w1 ⟨hv, hS⟩
              case e4 =>
                rintro a' v w1 ⟨⟨A', c', rfl, hc', hrd⟩, hS⟩ h1 h3
                have hF1 := Fr.ofDrew hS.2
                have Gw := Gg.on (w' := w1) hS.1 hF1
                have a11 : Av w1 gi 58 zi := hS.2.av (a10.drew) (by omega)
                refine exec_copyAvK a11 29 29 5 Tryd.underlying29 (by kernel_rfl) 0 32 32 A' p1.length c' (p1.map bv) (hrd w1 (hr.below Gw.base)) (by rw [List.length_map]; omega) (by rw [hzi]; simp; omega) (bv_one _) (.tmp 49) (.tmp 51) rfl h1 h3 fun w2 a12 f12 => ?_
                refine ⟨f12.av hS.1 (by omega), ?_, ?_⟩
                · rw [pad_cells p1 y1.2 [.int .u32 0, .slice none 0 0, .int .u32 0] zi hzi] at a12
                  exact a12
                · exact ((Below.fr b10).trans hF1).transNew f12 (fun x hx => .inr (by have := hgi.out; omega))
              case k =>
              rintro v V4 w2 ⟨s2, a12, F2⟩
              clear a10 b10 Gg hzi hwg2 C1
              have G2 := GS.out.on s2 F2
              clear s2
              have hgiw : wr.heap.size ≤ gi := by have := hgi.out; omega
              obtain ⟨ph, hph⟩ : ∃ ph, ph = (padH p1).map bv := ⟨_, rfl⟩
              have hpl : ph.length = 32 := by rw [hph, List.length_map]; exact padH_length p1 y1.2
              rw [← hph] at a12
              have hcall := C2.out w2 G2.base G2.p G2.s
              have hcp := G2.p.cell 0 _ rfl
              replace G2 := Lib.hid G2
              replace F2 := Lib.hid F2
              replace a12 := Lib.hid a12
              replace hph := Lib.hid hph
              replace hpl := Lib.hid hpl
              go_wp2_with fail
              refine hcall.mono ?_
              rintro r w3 ⟨rfl, hS3⟩
              have F3 := F2.out.trans hS3.2
              have a13 := hS3.2.av a12.out (by omega)
              have hc3 := a13.cell 32 (.int .u32 0) (by rw [get_app hpl.out 0]; rfl)
              have hf3 := frozen_of_row _ _ 32 _ _ a13
              clear hcall hcp
              replace hS3 := Lib.hid hS3.1
              replace F3 := Lib.hid F3
              replace a13 := Lib.hid a13
              go_upto_region 14 with fail
              have a14 := a13.out.set 32 (.int .u32 I)
              rw [set_app hpl.out 0] at a14
              have F4 := F3.out.transNew (Fr.setCell w3 ⟨gi, 32, none⟩ (.int .u32 I)) (fun x hx => .inr (by simp only at hx; omega))
              have G4 := GS.out.on (hS3.out.other ⟨gi, 32, none⟩ (.int .u32 I) (by simp only; omega)) F4
              clear hc3 hf3 hS3 F3 a13 G2 F2 a12
              generalize w3.setCell ⟨gi, 32, none⟩ (.int .u32 I) = w4 at *
              have hcall := C3.out w4 G4.base G4.s
              have hcp := G4.p.cell 0 _ rfl
              have hw4 : gi < w4.heap.size := a14.lt
              replace G4 := Lib.hid G4
              replace F4 := Lib.hid F4
              replace a14 := Lib.hid a14
              go_wp2_with fail
              refine hcall.mono ?_
              rintro r w5 ⟨⟨v5, rfl, A5, c5, rfl, hc5, hrs, has⟩, hS5⟩
              have F5 := F4.out.trans hS5.2
              have a15 := hS5.2.av a14.out (by omega)
              have hc3 := a15.cell 33 (.slice none 0 0) (by rw [get_app hpl.out 1]; rfl)
              have hf3 := frozen_of_row _ _ 33 _ _ a15
              clear hcall hcp
              replace hS5 := Lib.hid hS5.1
              replace F5 := Lib.hid F5
              replace a15 := Lib.hid a15
              replace hrs := Lib.hid hrs
              replace has := Lib.hid has
              obtain ⟨n5, hn5⟩ : ∃ n5, s3.length = n5 := ⟨_, rfl⟩
              rw [hn5]
              rw [hn5] at hc5
              replace hn5 := Lib.hid hn5
              go_upto_region 15 with fail
              have a16 := a15.out.set 33 (.slice A5 n5 c5)
              rw [set_app hpl.out 1] at a16
              have F6 := F5.out.transNew (Fr.setCell w5 ⟨gi, 33, none⟩ (.slice A5 n5 c5)) (fun x hx => .inr (by simp only at hx; omega))
              have G6 := GS.out.on (hS5.out.other ⟨gi, 33, none⟩ (.slice A5 n5 c5) (by simp only; omega)) F6
              have hrs6 := (Fr.setCell w5 ⟨gi, 33, none⟩ (.slice A5 n5 c5)).rd hrs.out (fun b hb e => by have := has.out b hb; simp only at e; omega)
              clear hc3 hf3 hS5 F5 a15 G4 F4 a14 hrs
              generalize w5.setCell ⟨gi, 33, none⟩ (.slice A5 n5 c5) = w6 at *
              have hcall := C4.out w6 G6.base G6.p G6.s
              have hcp := G6.p.cell 0 _ rfl
              replace G6 := Lib.hid G6
              replace F6 := Lib.hid F6
              replace a16 := Lib.hid a16
              replace hrs6 := Lib.hid hrs6
              go_wp2_with fail
              refine hcall.mono ?_
              rintro r w7 ⟨rfl, hS7⟩
              have F7 := F6.out.trans hS7.2
              have a17 := hS7.2.av a16.out (by omega)
              have hrs7 := hS7.2.rd hrs6.out (fun b hb e => by have := has.out b hb; omega)
              have hc3 := a17.cell 34 (.int .u32 0) (by rw [get_app hpl.out 2]; rfl)
              have hf3 := frozen_of_row _ _ 34 _ _ a17
              clear hcall hcp hrs6
              replace hS7 := Lib.hid hS7.1
              replace F7 := Lib.hid F7
              replace a17 := Lib.hid a17
              replace hrs7 := Lib.hid hrs7
              go_upto_region 16 with fail
              have a18 := a17.out.set 34 (.int .u32 Q)
              rw [set_app hpl.out 2] at a18
              have F8 := F7.out.transNew (Fr.setCell w7 ⟨gi, 34, none⟩ (.int .u32 Q)) (fun x hx => .inr (by simp only at hx; omega))
              have G8 := GS.out.on (hS7.out.other ⟨gi, 34, none⟩ (.int .u32 Q) (by simp only; omega)) F8
              have hrs8 := (Fr.setCell w7 ⟨gi, 34, none⟩ (.int .u32 Q)).rd hrs7.out (fun b hb e => by have := has.out b hb; simp only at e; omega)
              clear hc3 hf3 hS7 F7 a17 G6 F6 a16 hrs7
              generalize w7.setCell ⟨gi, 34, none⟩ (.int .u32 Q) = w8 at *
              obtain ⟨x, hx⟩ : ∃ x : TIn × Sl, x = (⟨padH p1, Cm.le i2, s3, Cm.le i4⟩, (A5, c5)) := ⟨_, rfl⟩
              have hinc : inc x = ph ++ [.int .u32 I, .slice A5 n5 c5, .int .u32 Q] := by
                rw [hx, inc, hph.out, hI.out, hQ.out, ← hn5.out]
              have hxok : InAt w8 x := by
                rw [hx]
                refine ⟨⟨padH_length p1 y1.2, ?_, ?_⟩, hrs8, by simp only; rw [hn5.out]; exact hc5⟩
                · show Cm.le i2 < 4294967296
                  have := hI.out; omega
                · show Cm.le i4 < 4294967296
                  have := hQ.out; omega
              have hap : Apart (H + 4) v1 (.slice none 0 0) x.2 x.1.scr := by
                rw [hx]
                intro _ b hb
                have := has.out b hb
                exact ⟨by omega, fun e => by have := (World.ownsRow.lt GS.out.o1 _ e).2; omega, by simp [Value.ownBlock]⟩
              have hone := inc_one x
              have hil := inc_length hxok
              obtain ⟨cs, hcs⟩ : ∃ cs, cs = inc x := ⟨_, rfl⟩
              rw [← hcs] at hone hil
              have a19 : Av w8 gi 58 cs := by rw [hcs, hinc]; exact a18
              obtain ⟨A1, c1, rfl, hc1, _⟩ := own_form G8.o1
              have hct := G8.t.cell 1 _ rfl
              have hstep := hMany.out
              rw [show N - k = (N - (k + 1)) + 1 by omega, gMany_go, hgin.out] at hstep
              have hx1 : x.1 = ⟨padH p1, Cm.le i2, s3, Cm.le i4⟩ := by rw [hx]
              rw [← hx1] at hstep
              clear a18 hrs8
              replace hstep := Lib.hid hstep
              replace G8 := Lib.hid G8
              replace hxok := Lib.hid hxok
              replace hap := Lib.hid hap
              replace hone := Lib.hid hone
              replace hil := Lib.hid hil
              replace hcs := Lib.hid hcs
              replace a19 := Lib.hid a19
              clear hx hinc hx1
              rw [hlk.out] at hct
              have Gb := G8.out.below ((Below.refl w8.heap.size w8).alloc (Nat.le_refl _) (.cells cs.toArray 58))
              have hob := Gb.o1
              have hbb := Gb.hb
              have htb := Gb.t
              rw [hlk.out] at hob htb
              replace Gb := Lib.hid Gb
              replace hob := Lib.hid hob
              replace htb := Lib.hid htb
              have hk1000 : k ≤ 1000 := by omega
              have hcf := frozen_of_row _ _ 1 _ _ htb.out
              go_wp2_with (first
                | refine wpList_loadAv a19.out rfl _ _ rfl rfl _ 35 hil.out Tryd.underlying58 rfl (by kernel_rfl) ?_
                | refine wpList_build1 Tryd.underlying33 infoI zeroI (by decide) (by decide) cs hil.out rfl ?_
                | (at_builtin; refine wpList_appE Tryd.underlying33 infoI zeroI (by decide) hob.out hbb cs 1 1 (Av.rd (t := 58) (heap_alloc_new _ _)) (by rw [hil.out]) hone.out (by omega) (by omega) rfl (.tmp 65) (.tmp 67) rfl rfl rfl ?_; intro v9 w9 o9 gr9 ob9; obtain ⟨A9, c9, rfl, _, _⟩ := own_form o9; have q1 := htb.out.same (gr9.block _ htb.out.lt (fun e => by have := (World.ownsRow.lt hob.out _ e.symm).1; omega)); have qc := q1.cell 1 _ rfl; have qf := frozen_of_row _ _ 1 _ _ q1))
              have Gn := Gb.out.push1 x (hxok.out.below ((Below.refl w8.heap.size w8).alloc (Nat.le_refl _) _)) hap.out (by rw [hlk.out, icl, List.flatMap_append, List.flatMap_cons, List.flatMap_nil, List.append_nil, ← hcs.out]; exact o9) (by rw [hlk.out]; exact gr9) (by rw [hlk.out]; exact ob9)
              refine ⟨⟨k + 1, a4', e4', l ++ [x], .slice A9 (k + 1) c9, by omega, by go_num, y4.1, Lib.hid Gn, by rw [List.length_append, hlk.out]; rfl, Lib.hid ?_⟩, ?_⟩
              · rw [hstep.out, List.map_append, List.append_assoc]
                rfl
              · simp [intOf]; omega
            · have t2 : ((e : Int) == 0) = false := by simp; omega
              have hfin := hMany.out
              rw [gMany_stop _ _ _ _ he, h4.out, List.append_nil, Prod.mk.injEq, Prod.mk.injEq] at hfin
              obtain ⟨f1, f2, f3⟩ := hfin
              replace f1 := Lib.hid f1
              replace f2 := Lib.hid f2
              replace f3 := Lib.hid f3
              replace hlk := Lib.hid hlk
              go_wp2_with fail
              go_meet
              exact ⟨l, v1, by rw [f2.out, f3.out]; exact GS.out, f1.out.symm, by rw [f2.out]; exact han⟩
          · obtain rfl : N = k := by omega
            have t1 : decide ((N : Int) < (N : Int)) = false := by simp
            have hfin := hMany.out
            rw [Nat.sub_self, gMany, h4.out, List.append_nil, Prod.mk.injEq, Prod.mk.injEq] at hfin
            obtain ⟨f1, f2, f3⟩ := hfin
            replace f1 := Lib.hid f1
            replace f2 := Lib.hid f2
            replace f3 := Lib.hid f3
            replace hlk := Lib.hid hlk
            go_wp2_with fail
            go_meet
            exact ⟨l, v1, by rw [f2.out, f3.out]; exact GS.out, f1.out.symm, by rw [f2.out]; exact han⟩
      case rest =>
        clear G4
        obtain ⟨l, v1, G5, hins, han⟩ := hcut
        obtain ⟨A1, c1, rfl, hc1, _⟩ := own_form G5.o1
        have T5 := fun w' hB hA => TCount bs A n c hn.out hnc (by omega) a4 e4 1000 han (H + 1) w w' hr hB hA
        have z5 := sCount_le bs a4 e4 1000 (by rw [hn.out]; exact han)
        rw [h5.out] at z5
        simp only at z5
        rw [hn.out] at z5
        rw [h5.out, show ((1000 : Nat) : Int) = 1000 from rfl] at T5
        have hcall := T5 wc G5.base G5.s
        have hcp := G5.p.cell 0 _ rfl
        replace G5 := Lib.hid G5
        replace hins := Lib.hid hins
        clear T5
        go_wp2_with fail
        refine hcall.mono ?_
        rintro r W6 ⟨rfl, hS6⟩
        have G6 := G5.out.src hS6
        clear hcall hS6 G5 hcp
        replace G6 := Lib.hid G6
        go_upto_block 2 with fail
        go_cut [] from 14 (fun wc => ∃ (m : List (TOut × Sl)) (v2 : Value), GSt A n c H w wc a6 e6 V l m (.slice A1 l.length c1) v2 ∧ m.map (·.1) = outs ∧ a6 ≤ n)
        case first =>
          go_wp2_with fail
          go_loopw [12, 13] (fun i _ wr => ∃ (k a e : Nat) (m : List (TOut × Sl)) (v2 : Value), k ≤ M ∧ i = .int .i64 (k : Int) ∧ a ≤ n ∧ Hid (GSt A n c H w wr a e V l m (.slice A1 l.length c1) v2) ∧ m.length = k ∧ Hid (gMany (gOut bs) M a5 e5 = (m.map (·.1) ++ (gMany (gOut bs) (M - k) a e).1, (gMany (gOut bs) (M - k) a e).2))) (fun i _ _ => M - (intOf i).toNat)
          case atStart => exact ⟨0, a5, e5, [], .slice none 0 0, by omega, rfl, z5.1, G6, rfl, Lib.hid (by simp)⟩
          case round =>
            clear G6
            obtain ⟨k, a, e, m, v2, hk, rfl, han', GS, hlk, hMany⟩ := hrel
            have hcp := GS.out.p.cell 0 _ rfl
            have hcs := GS.out.s.cell 2 _ rfl
            by_cases hgo : k < M
            · have t1 : decide ((k : Int) < (M : Int)) = true := by simp; omega
              by_cases he : e = 0
              · subst he
                obtain ⟨p1, a1', e1', q1⟩ : ∃ X Y Z, sTake bs a 0 8 = (X, Y, Z) := ⟨_, _, _, rfl⟩
                have y1 := sTake_le bs a 0 8 (by rw [hn.out]; exact han')
                rw [q1] at y1
                obtain ⟨s3, a3', e3', q3⟩ : ∃ X Y Z, sScript bs a1' e1' = (X, Y, Z) := ⟨_, _, _, rfl⟩
                have y3 := sScript_le bs a1' e1' y1.1
                rw [q3] at y3
                simp only at y1 y3
                rw [hn.out] at y1 y3
                have hgout : gOut bs a 0 = (⟨Cm.le p1, s3⟩, a3', e3') := by simp only [gOut, q1, q3]
                obtain ⟨I, hI⟩ : ∃ I : Int, I = (Cm.le p1 : Int) := ⟨_, rfl⟩
                have I0 : 0 ≤ I := by omega
                have C2 := fun w' hB h5 hA => TNum bs A n c hn.out hnc (by omega) a 0 8 han' (by omega) (H + 1) (H + 2) w w' hr hB (by have := hH.out; omega) h5 hA
                rw [q1, ← hI, show ((8 : Nat) : Int) = 8 from rfl] at C2
                have C3 := fun w' hB hA => TScript bs A n c hn.out hnc (by omega) a1' e1' y1.1 (H + 1) w w' hr hB hA
                rw [q3] at C3
                replace C2 := Lib.hid C2
                replace C3 := Lib.hid C3
                replace hI := Lib.hid hI
                replace hgout := Lib.hid hgout
                replace hlk := Lib.hid hlk
                clear q1 q3
                go_upto_region 22 with fail
                obtain ⟨gi, hgi⟩ : ∃ gi, gi = wr.heap.size := ⟨_, rfl⟩
                obtain ⟨wg, hwg⟩ : ∃ wg, wg = wr.alloc (.cells #[.int .u64 0, .slice none 0 0] 61) := ⟨_, rfl⟩
                rw [← hwg, ← hgi]
                have a10 : Av wg gi 61 [.int .u64 0, .slice none 0 0] := by rw [hwg, hgi]; exact heap_alloc_new _ _
                have b10 : Below wr.heap.size wr wg := by rw [hwg]; exact (Below.refl _ _).alloc (Nat.le_refl _) _
                have Gg := GS.out.below b10
                have hgiH : H + 4 ≤ gi := by rw [hgi]; exact GS.out.hb
                have hgiw : wr.heap.size ≤ gi := by omega
                have F0 := Below.fr (S := fun k => k = H + 1) b10
                have hcall := C2.out wg Gg.base Gg.p Gg.s
                clear hwg hcp hcs b10
                have hcp := Gg.p.cell 0 _ rfl
                replace hgi := Lib.hid hgi
                replace Gg := Lib.hid Gg
                replace F0 := Lib.hid F0
                replace a10 := Lib.hid a10
                go_wp2_with fail
                refine hcall.mono ?_
                rintro r w3 ⟨rfl, hS3⟩
                have F3 := F0.out.trans hS3.2
                have a13 := hS3.2.av a10.out (by omega)
                have hc3 := a13.cell 0 (.int .u64 0) rfl
                have hf3 := frozen_of_row _ _ 0 _ _ a13
                clear hcall hcp
                replace hS3 := Lib.hid hS3.1
                replace F3 := Lib.hid F3
                replace a13 := Lib.hid a13
                go_upto_region 23 with fail
                have a14 : Av (w3.setCell ⟨gi, 0, none⟩ (.int .u64 I)) gi 61 [.int .u64 I, .slice none 0 0] := a13.out.set 0 (.int .u64 I)
                have F4 := F3.out.transNew (Fr.setCell w3 ⟨gi, 0, none⟩ (.int .u64 I)) (fun x hx => .inr (by simp only at hx; omega))
                have G4 := GS.out.on (hS3.out.other ⟨gi, 0, none⟩ (.int .u64 I) (by simp only; omega)) F4
                clear hc3 hf3 hS3 F3 a13 Gg F0 a10
                generalize w3.setCell ⟨gi, 0, none⟩ (.int .u64 I) = w4 at *
                have hcall := C3.out w4 G4.base G4.s
                have hcp := G4.p.cell 0 _ rfl
                have hw4 : gi < w4.heap.size := a14.lt
                replace G4 := Lib.hid G4
                replace F4 := Lib.hid F4
                replace a14 := Lib.hid a14
                go_wp2_with fail
                refine hcall.mono ?_
                rintro r w5 ⟨⟨v5, rfl, A5, c5, rfl, hc5, hrs, has⟩, hS5⟩
                have F5 := F4.out.trans hS5.2
                have a15 := hS5.2.av a14.out (by omega)
                have hc3 := a15.cell 1 (.slice none 0 0) rfl
                have hf3 := frozen_of_row _ _ 1 _ _ a15
                clear hcall hcp
                replace hS5 := Lib.hid hS5.1
                replace F5 := Lib.hid F5
                replace a15 := Lib.hid a15
                replace hrs := Lib.hid hrs
                replace has := Lib.hid has
                obtain ⟨n5, hn5⟩ : ∃ n5, s3.length = n5 := ⟨_, rfl⟩
                rw [hn5]
                rw [hn5] at hc5
                replace hn5 := Lib.hid hn5
                go_upto_region 24 with fail
                have a18 : Av (w5.setCell ⟨gi, 1, none⟩ (.slice A5 n5 c5)) gi 61 [.int .u64 I, .slice A5 n5 c5] := a15.out.set 1 (.slice A5 n5 c5)
                have F8 := F5.out.transNew (Fr.setCell w5 ⟨gi, 1, none⟩ (.slice A5 n5 c5)) (fun x hx => .inr (by simp only at hx; omega))
                have G8 := GS.out.on (hS5.out.other ⟨gi, 1, none⟩ (.slice A5 n5 c5) (by simp only; omega)) F8
                have hrs8 := (Fr.setCell w5 ⟨gi, 1, none⟩ (.slice A5 n5 c5)).rd hrs.out (fun b hb e => by have := has.out b hb; simp only at e; omega)
                clear hc3 hf3 hS5 F5 a15 G4 F4 a14 hrs
                generalize w5.setCell ⟨gi, 1, none⟩ (.slice A5 n5 c5) = w8 at *
                obtain ⟨x, hx⟩ : ∃ x : TOut × Sl, x = (⟨Cm.le p1, s3⟩, (A5, c5)) := ⟨_, rfl⟩
                have hinc : outc x = [.int .u64 I, .slice A5 n5 c5] := by
                  rw [hx, outc, hI.out, ← hn5.out]
                have hxok : OutAt w8 x := by
                  rw [hx]
                  refine ⟨?_, hrs8, by simp only; rw [hn5.out]; exact hc5⟩
                  show Cm.le p1 < 18446744073709551616
                  have := le_lt_of p1 8 y1.2
                  exact this
                have hap : Apart (H + 4) (.slice A1 l.length c1) v2 x.2 x.1.scr := by
                  rw [hx]
                  intro _ b hb
                  have := has.out b hb
                  exact ⟨by omega, fun e => by have := (World.ownsRow.lt GS.out.o1 _ e).2; omega, fun e => by have := (World.ownsRow.lt GS.out.o2 _ e).2; omega⟩
                have hone := outc_one x
                have hil := outc_length x
                obtain ⟨cs, hcs⟩ : ∃ cs, cs = outc x := ⟨_, rfl⟩
                rw [← hcs] at hone hil
                have a19 : Av w8 gi 61 cs := by rw [hcs, hinc]; exact a18
                obtain ⟨A2, c2, rfl, hc2, _⟩ := own_form G8.o2
                have hct := G8.t.cell 2 _ rfl
                have hstep := hMany.out
                rw [show M - k = (M - (k + 1)) + 1 by omega, gMany_go, hgout.out] at hstep
                have hx1 : x.1 = ⟨Cm.le p1, s3⟩ := by rw [hx]
                rw [← hx1] at hstep
                clear a18 hrs8
                replace hstep := Lib.hid hstep
                replace G8 := Lib.hid G8
                replace hxok := Lib.hid hxok
                replace hap := Lib.hid hap
                replace hone := Lib.hid hone
                replace hil := Lib.hid hil
                replace hcs := Lib.hid hcs
                replace a19 := Lib.hid a19
                clear hx hinc hx1
                rw [hlk.out] at hct
                have Gb := G8.out.below ((Below.refl w8.heap.size w8).alloc (Nat.le_refl _) (.cells cs.toArray 61))
                have hob := Gb.o2
                have hbb := Gb.hb
                have htb := Gb.t
                rw [hlk.out] at hob htb
                replace Gb := Lib.hid Gb
                replace hob := Lib.hid hob
                replace htb := Lib.hid htb
                have hk1000 : k ≤ 1000 := by omega
                have hcf := frozen_of_row _ _ 2 _ _ htb.out
                go_wp2_with (first
                  | refine wpList_loadAv a19.out rfl _ _ rfl rfl _ 2 hil.out Tryd.underlying61 rfl (by kernel_rfl) ?_
                  | refine wpList_build1 Tryd.underlying34 infoO zeroO (by decide) (by decide) cs hil.out rfl ?_
                  | (at_builtin; refine wpList_appE Tryd.underlying34 infoO zeroO (by decide) hob.out hbb cs 1 1 (Av.rd (t := 61) (heap_alloc_new _ _)) (by rw [hil.out]) hone.out (by omega) (by omega) rfl (.tmp 91) (.tmp 93) rfl rfl rfl ?_; intro v9 w9 o9 gr9 ob9; obtain ⟨A9, c9, rfl, _, _⟩ := own_form o9; have q1 := htb.out.same (gr9.block _ htb.out.lt (fun e => by have := (World.ownsRow.lt hob.out _ e.symm).1; omega)); have qc := q1.cell 2 _ rfl; have qf := frozen_of_row _ _ 2 _ _ q1))
                have Gn := Gb.out.push2 x (hxok.out.below ((Below.refl w8.heap.size w8).alloc (Nat.le_refl _) _)) hap.out (by rw [hlk.out, ocl, List.flatMap_append, List.flatMap_cons, List.flatMap_nil, List.append_nil, ← hcs.out]; exact o9) (by rw [hlk.out]; exact gr9) (by rw [hlk.out]; exact ob9)
                refine ⟨⟨k + 1, a3', e3', m ++ [x], .slice A9 (k + 1) c9, by omega, by go_num, y3, Lib.hid Gn, by rw [List.length_append, hlk.out]; rfl, Lib.hid ?_⟩, ?_⟩
                · rw [hstep.out, List.map_append, List.append_assoc]
                  rfl
                · simp [intOf]; omega
              · have t2 : ((e : Int) == 0) = false := by simp; omega
                have hfin := hMany.out
                rw [gMany_stop _ _ _ _ he, h6.out, List.append_nil, Prod.mk.injEq, Prod.mk.injEq] at hfin
                obtain ⟨f1, f2, f3⟩ := hfin
                replace f1 := Lib.hid f1
                replace f2 := Lib.hid f2
                replace f3 := Lib.hid f3
                replace hlk := Lib.hid hlk
                go_wp2_with fail
                go_meet
                exact ⟨m, v2, by rw [f2.out, f3.out]; exact GS.out, f1.out.symm, by rw [f2.out]; exact han'⟩
            · obtain rfl : M = k := by omega
              have t1 : decide ((M : Int) < (M : Int)) = false := by simp
              have hfin := hMany.out
              rw [Nat.sub_self, gMany, h6.out, List.append_nil, Prod.mk.injEq, Prod.mk.injEq] at hfin
              obtain ⟨f1, f2, f3⟩ := hfin
              replace f1 := Lib.hid f1
              replace f2 := Lib.hid f2
              replace f3 := Lib.hid f3
              replace hlk := Lib.hid hlk
              go_wp2_with fail
              go_meet
              exact ⟨m, v2, by rw [f2.out, f3.out]; exact GS.out, f1.out.symm, by rw [f2.out]; exact han'⟩
        case rest =>
          clear G6
          obtain ⟨m, v2, G7, houts, han6⟩ := hcut
          obtain ⟨A2, c2, rfl, hc2, _⟩ := own_form G7.o2
          obtain ⟨L, hL⟩ : ∃ L : Int, L = (Cm.le x7 : Int) := ⟨_, rfl⟩
          have y7 := sTake_le bs a6 e6 4 (by rw [hn.out]; exact han6)
          rw [h7.out] at y7
          simp only at y7
          have L0 : 0 ≤ L := by omega
          have L1 : L < 4294967296 := by have := le_lt_of x7 4 y7.2; omega
          have T7 := fun w' hB h5 hA => TNum bs A n c hn.out hnc (by omega) a6 e6 4 han6 (by omega) (H + 1) (H + 2) w w' hr hB (by have := hH.out; omega) h5 hA
          rw [h7.out, ← hL, show ((4 : Nat) : Int) = 4 from rfl] at T7
          have hcall := T7 wc G7.base G7.p G7.s
          have hcp := G7.p.cell 0 _ rfl
          replace G7 := Lib.hid G7
          replace houts := Lib.hid houts
          replace hL := Lib.hid hL
          clear T7
          go_wp2_with fail
          refine hcall.mono ?_
          rintro r W8 ⟨rfl, hS8⟩
          have G8 := G7.out.src hS8
          clear hcall hS8 G7 hcp
          have hc3 := G8.t.cell 3 _ rfl
          have hf3 := frozen_of_row _ _ 3 _ _ G8.t
          replace G8 := Lib.hid G8
          go_upto_region 26 with fail
          have t8 : Av (W8.setCell ⟨H + 3, 3, none⟩ (.int .u32 L)) (H + 3) 36 [.int .u32 V, .slice A1 l.length c1, .slice A2 m.length c2, .int .u32 L] := G8.out.t.set 3 _
          have r8 := G8.out.r.other ⟨H + 3, 3, none⟩ (.int .u32 L) (by simp only; omega)
          have s8 := G8.out.s.other ⟨H + 3, 3, none⟩ (.int .u32 L) (by simp only; omega)
          have p8 := G8.out.p.other ⟨H + 3, 3, none⟩ (.int .u32 L) (by simp only; omega)
          have b8 := G8.out.bel.setCell (p := ⟨H + 3, 3, none⟩) (by simp only; omega) (.int .u32 L)
          have F8 := Fr.setCell W8 ⟨H + 3, 3, none⟩ (.int .u32 L)
          have o18 := own_fr G8.out.o1 F8 (fun k hk e => by have := (World.ownsRow.lt G8.out.o1 k hk).1; simp only at e; omega)
          have o28 := own_fr G8.out.o2 F8 (fun k hk e => by have := (World.ownsRow.lt G8.out.o2 k hk).1; simp only at e; omega)
          have i18 : ∀ x ∈ l, InAt (W8.setCell ⟨H + 3, 3, none⟩ (.int .u32 L)) x ∧ (x.1.scr ≠ [] → ∀ a, x.2.1 = some a → H + 4 ≤ a.block) := fun x hx => by
            obtain ⟨⟨x1, x2, x3⟩, x4⟩ := G8.out.i1 x hx
            refine ⟨⟨x1, ?_, x3⟩, fun h0 a ha => (x4 h0 a ha).1⟩
            by_cases h0 : x.1.scr = []
            · rw [h0]; exact Rd.nil _ _
            · exact F8.rd x2 fun b hb e => by have := (x4 h0 b hb).1; simp only at e; omega
          have i28 : ∀ x ∈ m, OutAt (W8.setCell ⟨H + 3, 3, none⟩ (.int .u32 L)) x ∧ (x.1.scr ≠ [] → ∀ a, x.2.1 = some a → H + 4 ≤ a.block) := fun x hx => by
            obtain ⟨⟨x1, x2, x3⟩, x4⟩ := G8.out.i2 x hx
            refine ⟨⟨x1, ?_, x3⟩, fun h0 a ha => (x4 h0 a ha).1⟩
            by_cases h0 : x.1.scr = []
            · rw [h0]; exact Rd.nil _ _
            · exact F8.rd x2 fun b hb e => by have := (x4 h0 b hb).1; simp only at e; omega
          have own1 : ∀ k, (Value.slice A1 l.length c1).ownBlock = some k → H + 4 ≤ k := fun k hk => (World.ownsRow.lt o18 k hk).1
          have own2 : ∀ k, (Value.slice A2 m.length c2).ownBlock = some k → H + 4 ≤ k := fun k hk => (World.ownsRow.lt o28 k hk).1
          clear hc3 hf3 F8 G8
          generalize W8.setCell ⟨H + 3, 3, none⟩ (.int .u32 L) = W9 at *
          replace i18 := Lib.hid i18
          replace i28 := Lib.hid i28
          replace o18 := Lib.hid o18
          replace o28 := Lib.hid o28
          replace own1 := Lib.hid own1
          replace own2 := Lib.hid own2
          have hcp := p8.cell 0 _ rfl
          have hce := s8.cell 2 _ rfl
          by_cases he7 : e7 = 0
          · subst he7
            have hRR := hR.out
            rw [if_neg (by simp)] at hRR
            replace hRR := Lib.hid hRR
            go_upto_region 28 with fail
            refine wp_region_relG 7 [] [(5, fun w' => Av w' H 36 [.int .u32 V, .slice A1 l.length c1, .slice A2 m.length c2, .int .u32 L])] (RS H 36 [.int .u32 V, .slice A1 l.length c1, .slice A2 m.length c2, .int .u32 L]) (by kernel_rfl) (by kernel_rfl) (by kernel_rfl) (by kernel_rfl) (by kernel_rfl) (by kernel_rfl) (fun w => RS.refl w) RS.trans (by intro p hp; cases hp) (by
              intro p hp w w' hR h
              simp only [List.mem_singleton] at hp
              subst hp
              exact hR.2.1 h) ?_
            refine gel (fun w => RS.refl w) rfl (relPure (fun w => RS.refl w) rfl rfl rfl rfl (c := .agg #[.int .u32 V, .slice A1 l.length c1, .slice A2 m.length c2, .int .u32 L]) (fun w hw => exec_loadAv (l := [.int .u32 V, .slice A1 l.length c1, .slice A2 m.length c2, .int .u32 L]) (hw.1.av t8.drew (by omega)) _ _ rfl rfl _ 4 rfl Tryd.underlying36 rfl (by kernel_rfl)) (by simp only [List.set_cons_succ, List.set_cons_zero]; rfl) (gend ?_))
            refine gel (fun w => RS.refl w) rfl (relPure (fun w => RS.refl w) rfl rfl rfl rfl (c := .pointer (some ⟨H + 1, 0, none⟩)) (fun w hw => by have := (hw.1.av p8.drew (by omega)).cell 0 _ rfl; go_simp; first | done | rfl) (by simp only [List.set_cons_succ, List.set_cons_zero]; rfl) (gend ?_))
            refine gel (fun w => RS.refl w) rfl (relPure (fun w => RS.refl w) rfl rfl rfl rfl (fun w _ => by go_simp; first | done | rfl) (by simp only [List.set_cons_succ, List.set_cons_zero]; rfl) (gend ?_))
            refine gel (fun w => RS.refl w) rfl (relPure (fun w => RS.refl w) rfl rfl rfl rfl (fun w _ => by go_simp; first | done | rfl) (by simp only [List.set_cons_succ, List.set_cons_zero]; rfl) (gend ?_))
            refine gel (fun w => RS.refl w) rfl (relPure (fun w => RS.refl w) rfl rfl rfl rfl (c := .int .i64 (a7 : Int)) (fun w hw => by have := (hw.1.av s8.drew (by omega)).cell 1 _ rfl; go_simp; first | done | rfl) (by simp only [List.set_cons_succ, List.set_cons_zero]; rfl) (gend ?_))
            refine gStore rfl rfl (fun w hw => exec_storeAv (C := [.int .u32 V, .slice A1 l.length c1, .slice A2 m.length c2, .int .u32 L]) r8.drew rfl hw _ _ _ rfl rfl rfl 4 rfl (by kernel_rfl) rfl 5) ?_
            refine gel (fun w => RS.refl w) rfl (relMove (fun w => RS.refl w) rfl rfl rfl rfl _ (.inr rfl) (by conv => lhs; whnf) (by simp only [List.set_cons_succ, List.set_cons_zero]; rfl) (gend ?_))
            refine relEndG fun w5 hw5 hg => ?_
            simp only [List.drop_succ_cons, List.drop_zero]
            have a5 := hg (5, fun w' => Av w' H 36 [.int .u32 V, .slice A1 l.length c1, .slice A2 m.length c2, .int .u32 L]) (List.mem_singleton.2 rfl)
            have f5 := Fr.ofDrew hw5.1
            have b5 := b8.trans (f5.below (B := H) (fun k hk => by omega) (by have := r8.lt; omega))
            have k1 := own_fr o18.out f5 (fun k hk e => by have := own1.out k hk; omega)
            have k2 := own_fr o28.out f5 (fun k hk e => by have := own2.out k hk; omega)
            replace k1 := Lib.hid k1
            replace k2 := Lib.hid k2
            go_wp2
            refine bodyPost_ret (v := .tuple #[.agg #[.int .u32 V, .slice A1 l.length c1, .slice A2 m.length c2, .int .u32 L], .int .i64 (a7 : Int), .int .i64 0]) ?res (by rfl) ?post
            case res =>
              exact (results_cellAv2 (C := [.int .u32 V, .slice A1 l.length c1, .slice A2 m.length c2, .int .u32 L]) (by rfl) (by rfl) a5 _ Tryd.underlying36 rfl 4 rfl (by kernel_rfl)).trans (by rfl)
            case post =>
              refine ⟨⟨_, by rw [hRR.out]; rfl, ?_⟩, by rw [← hH.out]; exact b5⟩
              rw [hRR.out]
              refine ⟨A1, A2, l.length, m.length, c1, c2, l, m, ?_, rfl, rfl, hc1, hc2, ⟨own_rd k1.out, fun x hx => ?_⟩, ⟨own_rd k2.out, fun x hx => ?_⟩, hins.out, houts.out, ?_, ?_⟩
              · rw [hV.out, hL.out]
              · obtain ⟨⟨x1, x2, x3⟩, x4⟩ := i18.out x hx
                refine ⟨x1, ?_, x3⟩
                by_cases h0 : x.1.scr = []
                · rw [h0]; exact Rd.nil _ _
                · exact f5.rd x2 fun b hb e => by have := x4 h0 b hb; omega
              · obtain ⟨⟨x1, x2, x3⟩, x4⟩ := i28.out x hx
                refine ⟨x1, ?_, x3⟩
                by_cases h0 : x.1.scr = []
                · rw [h0]; exact Rd.nil _ _
                · exact f5.rd x2 fun b hb e => by have := x4 h0 b hb; omega
              · show Cm.le x0 < 4294967296
                have := hV.out; omega
              · show Cm.le x7 < 4294967296
                have := hL.out; omega
          · have t9 : ((e7 : Int) != 0) = true := by simp; omega
            have hRR := hR.out
            rw [if_pos he7] at hRR
            replace hRR := Lib.hid hRR
            go_upto_region 27 with fail
            refine wp_region_relG 7 [] [(5, fun w' => Av w' H 36 [.int .u32 0, .slice none 0 0, .slice none 0 0, .int .u32 0])] (RS H 36 [.int .u32 0, .slice none 0 0, .slice none 0 0, .int .u32 0]) (by kernel_rfl) (by kernel_rfl) (by kernel_rfl) (by kernel_rfl) (by kernel_rfl) (by kernel_rfl) (fun w => RS.refl w) RS.trans (by intro p hp; cases hp) (by
              intro p hp w w' hR h
              simp only [List.mem_singleton] at hp
              subst hp
              exact hR.2.1 h) ?_
            refine gel (fun w => RS.refl w) rfl (relPure (fun w => RS.refl w) rfl rfl rfl rfl (c := (.agg #[.int .u32 0, .slice none 0 0, .slice none 0 0, .int .u32 0])) (fun w _ => by go_simp; first | done | rfl) (by simp only [List.set_cons_succ, List.set_cons_zero]; rfl) (gend ?_))
            refine gel (fun w => RS.refl w) rfl (relPure (fun w => RS.refl w) rfl rfl rfl rfl (c := .pointer (some ⟨H + 1, 0, none⟩)) (fun w hw => by have := (hw.1.av p8.drew (by omega)).cell 0 _ rfl; go_simp; first | done | rfl) (by simp only [List.set_cons_succ, List.set_cons_zero]; rfl) (gend ?_))
            refine gel (fun w => RS.refl w) rfl (relPure (fun w => RS.refl w) rfl rfl rfl rfl (fun w _ => by go_simp; first | done | rfl) (by simp only [List.set_cons_succ, List.set_cons_zero]; rfl) (gend ?_))
            refine gel (fun w => RS.refl w) rfl (relPure (fun w => RS.refl w) rfl rfl rfl rfl (fun w _ => by go_simp; first | done | rfl) (by simp only [List.set_cons_succ, List.set_cons_zero]; rfl) (gend ?_))
            refine gel (fun w => RS.refl w) rfl (relPure (fun w => RS.refl w) rfl rfl rfl rfl (c := .int .i64 (e7 : Int)) (fun w hw => by have := (hw.1.av s8.drew (by omega)).cell 2 _ rfl; go_simp; first | done | rfl) (by simp only [List.set_cons_succ, List.set_cons_zero]; rfl) (gend ?_))
            refine gStore rfl rfl (fun w hw => exec_storeAv (C := [.int .u32 0, .slice none 0 0, .slice none 0 0, .int .u32 0]) r8.drew rfl hw _ _ _ rfl rfl rfl 4 rfl (by kernel_rfl) rfl 5) ?_
            refine gel (fun w => RS.refl w) rfl (relMove (fun w => RS.refl w) rfl rfl rfl rfl _ (.inr rfl) (by conv => lhs; whnf) (by simp only [List.set_cons_succ, List.set_cons_zero]; rfl) (gend ?_))
            refine relEndG fun w5 hw5 hg => ?_
            simp only [List.drop_succ_cons, List.drop_zero]
            have a5 := hg (5, fun w' => Av w' H 36 [.int .u32 0, .slice none 0 0, .slice none 0 0, .int .u32 0]) (List.mem_singleton.2 rfl)
            have f5 := Fr.ofDrew hw5.1
            have b5 := b8.trans (f5.below (B := H) (fun k hk => by omega) (by have := r8.lt; omega))
            go_wp2
            refine bodyPost_ret (v := .tuple #[.agg #[.int .u32 0, .slice none 0 0, .slice none 0 0, .int .u32 0], .int .i64 0, .int .i64 (e7 : Int)]) ?res (by rfl) ?post
            case res =>
              exact (results_cellAv2 (C := [.int .u32 0, .slice none 0 0, .slice none 0 0, .int .u32 0]) (by rfl) (by rfl) a5 _ Tryd.underlying36 rfl 4 rfl (by kernel_rfl)).trans (by rfl)
            case post =>
              refine ⟨⟨_, by rw [hRR.out]; rfl, ?_⟩, by rw [← hH.out]; exact b5⟩
              rw [hRR.out]
              exact ⟨none, none, 0, 0, 0, 0, [], [], rfl, rfl, rfl, Nat.le_refl _, Nat.le_refl _, ⟨Rd.nil _ _, fun x hx => by cases hx⟩, ⟨Rd.nil _ _, fun x hx => by cases hx⟩, rfl, rfl, by simp, by simp⟩

end Go.Proofs.YtopgljkfoogihaaDoor
