import Derived.Test.YtobjgebojhjhnaaDoorQr13
import Derived.Test.YtobjgebojhjhnaaDoorQr5
import Derived.Test.YtobjgebojhjhnaaDoorQr9
import Derived.Test.YtobjgebojhjhnaaDoorQr2
namespace Go.Proofs.YtobjgebojhjhnaaDoor
open Go.RowKit
attribute [local go_sem high] zvN zcN_c
attribute [local simp] zcN_ne
theorem own_neT {w : World} {base : Nat} {e t : TypeId} {size n g : Nat} {v : Value} {xs l : List Value} (h : w.ownsRow base e size v n xs) (ha : Av w g t l) (ht : e ≠ t) : v.ownBlock ≠ some g := by
 intro hb
 rcases h.2 with ⟨e1, e0⟩ | ⟨g', cap, cur, e1, hb', hg, _⟩
 ·rw [e1] at hb; cases hb
 ·rw [e1] at hb
  injection hb with hb
  subst hb
  rw [Av] at ha
  rw [hg] at ha
  injection ha with ha
  injection ha with _ h2 _
  exact ht h2
theorem own_neM {w : World} {base : Nat} {e : TypeId} {size n g : Nat} {v : Value} {xs : List Value} {ns : List Nd} (h : w.ownsRow base e size v n xs) (ha : TMap w (some g) ns) : v.ownBlock ≠ some g := by
 intro hb
 obtain ⟨_, _, ⟨es, clock, e3, _⟩, _⟩ := ha
 rcases h.2 with ⟨e1, e0⟩ | ⟨g', cap, cur, e1, hb', hg, _⟩
 ·rw [e1] at hb; cases hb
 ·rw [e1] at hb
  injection hb with hb
  subst hb
  rw [hg] at e3
  cases e3
theorem av_neM {w : World} {g : Nat} {t : TypeId} {l : List Value} {b : Nat} {ns : List Nd} (h : Av w g t l) (ha : TMap w (some b) ns) : g ≠ b := by
 rintro rfl
 obtain ⟨_, _, ⟨es, clock, e3, _⟩, _⟩ := ha
 rw [Av, e3] at h
 cases h
structure TAt (w : World) (base R most : Nat) (v : Value) (M : Nat) (ns : List Nd) : Prop where
 av : Av w R 121 [.int .i64 (most : Int), v, .map (some M)]
 own : w.ownsRow base 141 106 v ns.length (ndl ns)
 map : TMap w (some M) ns
 small : ns.length ≤ most
 lim : most ≤ 1048576
 hR : base ≤ R
 hM : base ≤ M
 ok : TOk ns
theorem own_rdT {w : World} {base : Nat} {v : Value} {ns : List Nd} (h : w.ownsRow base 141 106 v ns.length (ndl ns)) : ∃ A c, v = .slice A ns.length c ∧ Rd w A (ndl ns) := by
 rcases h.2 with ⟨e, e0⟩ | ⟨g, cap, cur, e, hb, hg, _⟩
 ·have hl := h.1
  have : ndl ns = [] := by
   have : (ndl ns).length = 0 := by rw [hl, e0]
   exact List.eq_nil_of_length_eq_zero this
  exact ⟨none, 0, by rw [e, e0], .inl this⟩
 ·refine ⟨some ⟨g, 0, none⟩, cap, e, .inr ⟨g, 0, rfl, fun j u hu => ?_⟩⟩
  have := h.cells (g := g) (by rw [e]; rfl) j u hu
  rwa [addr_add] at this
theorem TAt.rv {w : World} {base R most : Nat} {v : Value} {M : Nat} {ns : List Nd} (h : TAt w base R most v M ns) : ∃ A c, v = .slice A ns.length c ∧ TRv w R most A ns.length c (some M) ns := by
 obtain ⟨A, c, e, r⟩ := own_rdT h.own
 refine ⟨A, c, e, by rw [← e]; exact h.av, rfl, Nat.le_trans h.small h.lim, r, h.map, h.ok.nds⟩
theorem TAt.ref {w : World} {base R most : Nat} {v : Value} {M : Nat} {ns : List Nd} (h : TAt w base R most v M ns) : TRef w (.pointer (some ⟨R, 0, none⟩)) ns := by
 obtain ⟨A, c, e, r⟩ := h.rv
 exact .inr ⟨R, most, A, _, c, _, rfl, r⟩
theorem TAt.below {w w' : World} {base R most : Nat} {v : Value} {M : Nat} {ns : List Nd} (h : TAt w base R most v M ns) (b : Below w.heap.size w w') : TAt w' base R most v M ns :=
 ⟨h.av.below b, own_below h.own b, h.map.below b, h.small, h.lim, h.hR, h.hM, h.ok⟩
theorem TAt.low {w : World} {b base R most : Nat} {v : Value} {M : Nat} {ns : List Nd} (h : TAt w base R most v M ns) (hb : b ≤ base) : TAt w b R most v M ns := by
 refine ⟨h.av, ?_, h.map, h.small, h.lim, Nat.le_trans hb h.hR, Nat.le_trans hb h.hM, h.ok⟩
 refine ⟨h.own.1, h.own.2.imp id ?_⟩
 rintro ⟨g, cap, cur, e, hg, hrest⟩
 exact ⟨g, cap, cur, e, Nat.le_trans hb hg, hrest⟩
theorem TAt.fr {w w' : World} {base R most : Nat} {v : Value} {M : Nat} {ns : List Nd} (h : TAt w base R most v M ns) {g : Nat} (f : Fr (fun k => k = g) w w') (hR : g ≠ R) (hv : v.ownBlock ≠ some g) (hM : g ≠ M) : TAt w' base R most v M ns :=
 ⟨f.av h.av (Ne.symm hR), own_fr h.own f (fun k hk e => hv (by rw [hk, e])), h.map.block fun b e => f.block b (by cases e; exact h.map.lt) (by cases e; exact Ne.symm hM), h.small, h.lim, h.hR, h.hM, h.ok⟩
def clampN (m : Int) : Nat := (min (max m 0) 1048576).toNat
set_option maxRecDepth 100000 in
set_option maxHeartbeats 1000000 in
theorem TNew (m : Int) (w : World) : Calls Tryd.prog 32 #[.int .i64 m] w fun e w' => (∃ R M, e = .returned (.pointer (some ⟨R, 0, none⟩)) ∧ TAt w' w.heap.size R (clampN m) (.slice none 0 0) M []) ∧ Below w.heap.size w w' := by
 have hmm := @run_makeMap Tryd.prog
 obtain ⟨C, hC⟩ : ∃ C : Nat, C = clampN m := ⟨_, rfl⟩
 rw [← hC]
 have eC : min (max m 0) 1048576 = (C : Int) := by rw [hC, clampN]; omega
 have lC : C ≤ 1048576 := by rw [hC, clampN]; omega
 have eC' := eC
 replace hC := Lib.hid hC
 replace eC' := Lib.hid eC'
 go_enter Tryd.func32, Tryd.ntmps32
 go_wp2
 go_ret
 refine ⟨⟨_, _, rfl, ⟨?_, World.ownsRow_nil _ _ _ _, ?_, Nat.zero_le _, lC, by omega, Nat.le_refl _, TOk.nil⟩⟩, ((Below.refl _ _).alloc (Nat.le_refl _) _).alloc (by simp) _⟩
 ·have := heap_alloc_new (w.alloc (.map #[] 0)) (.cells #[Value.int .i64 C, .slice none 0 0, .map (some w.heap.size)] 121)
  simp only [World.size_alloc] at this
  exact this
 ·exact (TMap.made w).below ((Below.refl _ _).alloc (Nat.le_refl _) _)
theorem node_places : (match Tryd.prog.underlying 141 with | some (.struct fs) => fs.toList.mapM (fun f => (Tryd.prog.info? f.type).map fun i => (f.offset, i.size)) | _ => none) = some [(0, 32), (32, 68), (100, 1), (101, 1), (102, 4)] := by kernel_rfl
theorem node_zero : (Tryd.prog.info? 141).map (·.zero) = some (some (.agg zcN)) := by kernel_rfl
set_option maxRecDepth 10000 in
theorem node_built (x : List UInt8) (h : Hd) (y : Nat) (hx : x.length = 32) (hh : h.ok) : Tryd.prog.built 141 [(0, .agg (hcs x)), (1, .agg (hdc h).toArray), (2, .int .i64 (-1)), (4, .agg (uc y).toArray)] = some (ndc ⟨x, h, -1, 0, y⟩).toArray := by
 have hp := node_places
 rw [Tryd.underlying141] at hp
 rw [built_struct Tryd.underlying141 node_zero hp]
 have h68 := hdc_length hh
 have z68 : (hdc zeroNd.head).length = 68 := rfl
 have z32 : (zeroNd.id.map bv).length = 32 := rfl
 show Instr.fill _ (([] ++ (zeroNd.id.map bv ++ (hdc zeroNd.head ++ ([.int .i64 0, .int .i64 0] ++ uc 0)))) : List Value).toArray _ = _
 generalize hdc zeroNd.head = Z1 at *
 generalize zeroNd.id.map bv = Z0 at *
 refine Eq.trans (fill_step [] Z0 (x.map bv) _ (off := 0) (size := 32) ?_ ?_ ?_ ?_ ?_) ?_
 ·exact rfl
 ·exact rfl
 ·exact (by simpa using hx)
 ·exact rfl
 ·exact z32
 rw [show ([] ++ (x.map bv ++ (Z1 ++ ([.int .i64 0, .int .i64 0] ++ uc 0))) : List Value) = x.map bv ++ (Z1 ++ ([.int .i64 0, .int .i64 0] ++ uc 0)) from rfl]
 refine Eq.trans (fill_step (x.map bv) Z1 (hdc h) _ (off := 32) (size := 68) ?_ ?_ ?_ ?_ ?_) ?_
 ·exact rfl
 ·exact rfl
 ·exact h68
 ·exact (by simpa using hx)
 ·exact z68
 rw [show (x.map bv ++ (hdc h ++ ([.int .i64 0, .int .i64 0] ++ uc 0)) : List Value) = (x.map bv ++ hdc h) ++ ([.int .i64 0] ++ ([.int .i64 0] ++ uc 0)) by simp]
 refine Eq.trans (fill_step (x.map bv ++ hdc h) [.int .i64 0] [.int .i64 (-1)] _ (off := 100) (size := 1) ?_ ?_ ?_ ?_ ?_) ?_
 ·exact rfl
 ·exact rfl
 ·exact rfl
 ·exact (by simp [hx, h68])
 ·exact rfl
 rw [show ((x.map bv ++ hdc h) ++ ([.int .i64 (-1)] ++ ([.int .i64 0] ++ uc 0)) : List Value) = (x.map bv ++ hdc h ++ [.int .i64 (-1), .int .i64 0]) ++ (uc 0 ++ []) by simp]
 refine Eq.trans (fill_step (x.map bv ++ hdc h ++ [.int .i64 (-1), .int .i64 0]) (uc 0) (uc y) [] (off := 102) (size := 4) ?_ ?_ ?_ ?_ ?_) ?_
 ·exact rfl
 ·exact rfl
 ·exact rfl
 ·exact (by simp [hx, h68])
 ·exact rfl
 rw [Instr.fill]
 congr 2
 simp [ndc]
theorem ndc_par (n : Nd) (h : NdOk n) (p : Int) : (ndc n).set 100 (.int .i64 p) = ndc { n with par := p } := by
 have h1 := h.id
 have h2 := hdc_length h.head
 unfold ndc
 rw [List.set_append_right _ _ (by simp [h1]), List.set_append_right _ _ (by simp [h1, h2])]
 simp [h1, h2]
theorem ndc_hgt (n : Nd) (h : NdOk n) (g : Nat) : (ndc n).set 101 (.int .i64 (g : Int)) = ndc { n with hgt := g } := by
 have h1 := h.id
 have h2 := hdc_length h.head
 unfold ndc
 rw [List.set_append_right _ _ (by simp [h1]), List.set_append_right _ _ (by simp [h1, h2])]
 simp [h1, h2]
theorem ndc_split (n : Nd) : ndc n = (n.id.map bv ++ (hdc n.head ++ [.int .i64 n.par, .int .i64 (n.hgt : Int)])) ++ uc n.wrk ++ [] := by simp [ndc]
theorem infoNt : (Tryd.prog.info? 141).map (fun i => (i.size, i.bytes)) = some (106, 160) := by kernel_rfl
theorem zeroNt : (Tryd.prog.info? 141).map (fun i => (i.zero.map (·.cells.size))) = some (some 106) := by kernel_rfl
def KeepT (w w' : World) : Prop := ∀ (g : Nat) (t : TypeId) (l : List Value), Av w g t l → 121 ≠ t → 141 ≠ t → Av w' g t l
theorem KeepT.ofBelow {w w' : World} (h : Below w.heap.size w w') : KeepT w w' := fun _ _ _ a _ _ => a.below h
theorem KeepT.trans {a b c : World} (h : KeepT a b) (k : KeepT b c) : KeepT a c := fun g t l x h1 h2 => k g t l (h g t l x h1 h2) h1 h2
theorem KeepT.grown {w w' : World} {base size n : Nat} {v : Value} {xs : List Value} (o : w.ownsRow base 141 size v n xs) (gr : w.grownBy w' v.ownBlock) : KeepT w w' := fun _ _ _ a _ h2 => (Fr.of_grown gr).av a (fun e => own_neT o a h2 e.symm)
theorem KeepT.setR {w : World} {R i : Nat} {l : List Value} (h : Av w R 121 l) (x : Value) : KeepT w (w.setCell ⟨R, i, none⟩ x) := fun g t k a h1 _ => a.other _ _ (by
 rintro rfl
 have := a.symm.trans h
 injection Option.some.inj this with _ h2
 exact h1 h2.symm)
theorem KeepT.map {w w' : World} {M : Nat} {ns : List Nd} (h : TMap w (some M) ns) (gr : w.grownBy w' (some M)) : KeepT w w' := fun _ _ _ a _ _ => (Fr.of_grown gr).av a (fun e => av_neM a h (Option.some.inj e))
set_option maxRecDepth 10000 in
theorem wpList_mapT {w : World} {b : Nat} {ns : List Nd} (h : TMap w (some b) ns) (hn : ns.length ≤ 1048576) (nd : Nd) (hid : nd.id.length = 32) (hf : tFind ns nd.id = none) {ops : Array Oper} {rest : List Oper} {a : Act} {Q : Exit → Act → World → Prop} {d tp pos af} {m x y : Operand}
  (hm : a.eval m = .map (some b)) (hx : a.eval x = .agg (hcs nd.id)) (hy : a.eval y = .int .i64 (ns.length : Int)) (k : ∀ w', TMap w' (some b) (ns ++ [nd]) → w.grownBy w' (some b) → wpList Tryd.prog ops Q rest (a.put d undef) w') : wpList Tryd.prog ops Q (⟨d, .mapUpdate 119 m x y, tp, pos, af, none⟩ :: rest) a w := by
 refine wpList_plain rfl fun _ hK => ?_
 obtain ⟨w', hrun, r1, r2⟩ := h.put hn hid hf
 unfold Oper.wp
 simp [execOp, hm, hx, hy, hrun, Result.andThen]
 exact hK _ _ (k w' r1 r2)
theorem oldI {P : Program} {w : World} {o : Oper} {ρ : Operand → Value} {b i : Nat} {t : TypeId} {L L' : List Value} (h0 : Av w b t L) (hi : i < L.length) (ty : TypeId) (kk : IntKind) (z : Int) (x y : Operand) (ho : o.op = .store ty x y) (hx : ρ x = .pointer (some ⟨b, i, none⟩)) (hy : ρ y = .int kk z) (hs : (P.info? ty).map (·.size) = some 1) (e : L.set i (.int kk z) = L') :
  ∃ w', (execOp ρ o).run P w = .ok .skip w' ∧ Av w' b t L' ∧ Fr (fun k => k = b) w w' :=
 ⟨_, exec_storeI1 ty h0 hi kk z ho hx hy hs, by rw [← e]; exact h0.set i _, Fr.setCell w ⟨b, i, none⟩ _⟩
theorem Av.range0 {w : World} {g : Nat} {t : TypeId} {l : List Value} (h : Av w g t l) : w.rangeAt g 0 l := fun j u hu => by rw [Nat.zero_add]; exact h.cell j u hu
theorem wpList_storeMT {P : Program} (ty : TypeId) {w : World} {b off : Nat} (vs : List Value) (hth : w.there b off vs.length) {ops : Array Oper} {rest : List Oper} {a : Act} {Q : Exit → Act → World → Prop} {d tp pos af} {x y : Operand}
  (hx : a.eval x = .pointer (some ⟨b, off, none⟩)) (hy : a.eval y = .agg vs.toArray) (hi : (P.info? ty).map (·.size) = some vs.length) (h1 : vs.all (·.oneCell') = true) (k : wpList P ops Q rest (a.put d undef) (w.setCells b off vs)) : wpList P ops Q (⟨d, .store ty x y, tp, pos, af, none⟩ :: rest) a w :=
 wpList_store_mid rfl ty x y rfl b off vs.toArray hx hy (by simpa using hth) (by simpa using hi) (by simpa using h1) (by simpa using k)
def O9 (g : Nat) (L : List Value) (p q : Int) : Old := ⟨g, 141, [5, 7], fun f => (fun L2 => if f 7 = true then L2.set 101 (.int .i64 q) else L2) (if f 5 = true then L.set 100 (.int .i64 p) else L)⟩
theorem O9_con (g : Nat) (L : List Value) (p q : Int) (f f' : Nat → Bool) (h : ∀ k ∈ (O9 g L p q).ks, f k = f' k) : (O9 g L p q).C f = (O9 g L p q).C f' := by
 have h5 := h 5 (by simp [O9])
 have h7 := h 7 (by simp [O9])
 simp [O9, h5, h7]
theorem O9_len (g : Nat) (L : List Value) (p q : Int) (f : Nat → Bool) : ((O9 g L p q).C f).length = L.length := by
 simp only [O9]
 split <;> split <;> simp
theorem O9_5 (g : Nat) (L : List Value) (p q : Int) (f : Nat → Bool) (hf : f 5 = false) : ((O9 g L p q).C f).set 100 (.int .i64 p) = (O9 g L p q).C fun k => k == 5 || f k := by
 simp only [O9, hf]
 cases f 7 <;> simp [List.set_comm]
theorem O9_7 (g : Nat) (L : List Value) (p q : Int) (f : Nat → Bool) (hf : f 7 = false) : ((O9 g L p q).C f).set 101 (.int .i64 q) = (O9 g L p q).C fun k => k == 7 || f k := by
 simp [O9, hf]
set_option maxRecDepth 100000 in
set_option maxHeartbeats 4000000 in
theorem TAdd_known (base R most : Nat) (v : Value) (Mp : Nat) (ns : List Nd) (h : Hd) (hh : h.ok) (w : World) (ht : Tabs w) (T : TAt w base R most v Mp ns) (hbase : base ≤ w.heap.size) (i : Nat) (hk : tFind ns (hdId h) = some i) :
  Calls Tryd.prog 33 #[.pointer (some ⟨R, 0, none⟩), .agg (hdc h).toArray] w fun e w' => e = .returned (.tuple #[.int .i64 (i : Int), .int .i64 10]) ∧ (∃ v', TAt w' base R most v' Mp (ns)) ∧ Below base w w' ∧ KeepT w w' := by
 obtain ⟨W, hW⟩ : ∃ W, W = w.alloc (.cells (hdc h).toArray 32) := ⟨_, rfl⟩
 obtain ⟨H, hH⟩ : ∃ H, H = w.heap.size := ⟨_, rfl⟩
 have bW : Below w.heap.size w W := by rw [hW]; exact (Below.refl _ _).alloc (Nat.le_refl _) _
 have aH : Av W H 32 (hdc h) := by rw [hW, hH]; exact heap_alloc_new _ _
 have h68 := Lib.hid (hdc_length hh)
 have HI := HdId h hh W (ht.below bW)
 have hX := hdId_length h
 obtain ⟨X, hXe⟩ : ∃ X, X = hdId h := ⟨_, rfl⟩
 rw [← hXe] at HI hX hk
 have l32 : Hid ((X.map bv).length = 32) := Lib.hid (by rw [List.length_map]; exact hX)
 have one32 := Lib.hid (List.all_eq_true.2 (bv_one X))
 have HF := fun w' (q : TRef w' (.pointer (some ⟨R, 0, none⟩)) ns) => TFind _ ns X hX w' q
 rw [hk] at HF
 have z32 := Lib.hid (show ((#[.int .u8 0, .int .u8 0, .int .u8 0, .int .u8 0, .int .u8 0, .int .u8 0, .int .u8 0, .int .u8 0, .int .u8 0, .int .u8 0, .int .u8 0, .int .u8 0, .int .u8 0, .int .u8 0, .int .u8 0, .int .u8 0, .int .u8 0, .int .u8 0, .int .u8 0, .int .u8 0, .int .u8 0, .int .u8 0, .int .u8 0, .int .u8 0, .int .u8 0, .int .u8 0, .int .u8 0, .int .u8 0, .int .u8 0, .int .u8 0, .int .u8 0, .int .u8 0] : Array Value)).size = 32 from rfl)
 replace hXe := Lib.hid hXe
 replace HI := Lib.hid HI
 replace HF := Lib.hid HF
 replace hk := Lib.hid hk
 replace hX := Lib.hid hX
 replace hW := Lib.hid hW
 replace hH := Lib.hid hH
 go_enter Tryd.func33, Tryd.ntmps33
 go_upto_region 1 with fail
 rw [← hW.out, ← hH.out]
 go_upto_region 2 with (first
  | ((with_reducible refine wpList_loadF 32 aH ?_ _ 68 h68.out Tryd.underlying32 ?_ ?_ ?_); rfl; rfl; kernel_rfl)
  | (go_at_call 17; refine (HI.out).mono ?_; rintro e w1 ⟨rfl, b1⟩)
  | ((with_reducible refine wpList_storeF 30 ((Below.refl w1.heap.size w1).alloc (Nat.le_refl _) _) (heap_alloc_new _ _) (Nat.le_refl _) (X.map bv) ?_ ?_ 32 l32.out ?_ ?_ ?_ ?_); rfl; rfl; kernel_rfl; exact z32.out; exact one32.out; intro w2 a2 b2 k2 z2; clear k2; replace z2 := Lib.hid z2))
 have b02 := bW.trans ((b1.mono bW.size).trans (b2.mono (Nat.le_trans bW.size b1.size)))
 have aH2 := (aH.below b1).below b2
 have T2 := T.below b02
 clear b1 b2 aH bW
 obtain ⟨g6, hg6⟩ : ∃ g, g = w1.heap.size := ⟨_, rfl⟩
 rw [← hg6] at a2 ⊢
 replace hg6 := Lib.hid hg6
 go_upto_region 3 with (first
  | ((with_reducible refine wpList_loadF 30 a2 ?_ _ 32 l32.out Tryd.underlying30 ?_ ?_ ?_); rfl; rfl; kernel_rfl)
  | (go_at_call 16; refine (HF.out w2 T2.ref).mono ?_; rintro e w3 ⟨rfl, b3⟩))
 have b03 := b02.trans (b3.mono b02.size)
 have aH3 := aH2.below b3
 have aX3 := a2.below b3
 have T3 := T2.below b3
 clear b3 a2 aH2 T2 b02
 go_wp2
 go_ret2
 exact ⟨rfl, ⟨v, T3⟩, b03.mono hbase, KeepT.ofBelow b03⟩
set_option maxRecDepth 100000 in
set_option maxHeartbeats 8000000 in
theorem TAdd_rootF (base R most : Nat) (v : Value) (Mp : Nat) (ns : List Nd) (h : Hd) (hh : h.ok) (w : World) (ht : Tabs w) (T : TAt w base R most v Mp ns) (hbase : base ≤ w.heap.size) (hk : tFind ns (hdId h) = none) (hn0 : ns = []) (hfull : most ≤ ns.length) :
  Calls Tryd.prog 33 #[.pointer (some ⟨R, 0, none⟩), .agg (hdc h).toArray] w fun e w' => e = .returned (.tuple #[.int .i64 (-1), .int .i64 12]) ∧ (∃ v', TAt w' base R most v' Mp (ns)) ∧ Below base w w' ∧ KeepT w w' := by
 have hnew0 : mNode ns h = some ⟨hdId h, h, -1, 0, mWork h.bits⟩ := by rw [mNode, if_pos (by rw [hn0]; rfl)]
 have hRb := T.hR
 have hMb := T.hM
 have hn1 : ns.length = 0 := by rw [hn0]; rfl
 obtain ⟨nd, hnd⟩ : ∃ nd : Nd, nd = ⟨hdId h, h, -1, 0, mWork h.bits⟩ := ⟨_, rfl⟩
 rw [← hnd] at hnew0 
 have hnew := Lib.hid hnew0
 clear hnew0 hn0
 replace hnd := Lib.hid hnd
 obtain ⟨W, hW⟩ : ∃ W, W = w.alloc (.cells (hdc h).toArray 32) := ⟨_, rfl⟩
 obtain ⟨H, hH⟩ : ∃ H, H = w.heap.size := ⟨_, rfl⟩
 have bW : Below w.heap.size w W := by rw [hW]; exact (Below.refl _ _).alloc (Nat.le_refl _) _
 have aH : Av W H 32 (hdc h) := by rw [hW, hH]; exact heap_alloc_new _ _
 have h68 := Lib.hid (hdc_length hh)
 have HI := HdId h hh W (ht.below bW)
 have hX := hdId_length h
 obtain ⟨X, hXe⟩ : ∃ X, X = hdId h := ⟨_, rfl⟩
 rw [← hXe] at HI hX hk
 have l32 : Hid ((X.map bv).length = 32) := Lib.hid (by rw [List.length_map]; exact hX)
 have one32 := Lib.hid (List.all_eq_true.2 (bv_one X))
 have HF := fun w' (q : TRef w' (.pointer (some ⟨R, 0, none⟩)) ns) => TFind _ ns X hX w' q
 rw [hk] at HF
 have z32 := Lib.hid (show ((#[.int .u8 0, .int .u8 0, .int .u8 0, .int .u8 0, .int .u8 0, .int .u8 0, .int .u8 0, .int .u8 0, .int .u8 0, .int .u8 0, .int .u8 0, .int .u8 0, .int .u8 0, .int .u8 0, .int .u8 0, .int .u8 0, .int .u8 0, .int .u8 0, .int .u8 0, .int .u8 0, .int .u8 0, .int .u8 0, .int .u8 0, .int .u8 0, .int .u8 0, .int .u8 0, .int .u8 0, .int .u8 0, .int .u8 0, .int .u8 0, .int .u8 0, .int .u8 0] : Array Value)).size = 32 from rfl)
 replace hXe := Lib.hid hXe
 replace HI := Lib.hid HI
 replace HF := Lib.hid HF
 replace hk := Lib.hid hk
 replace hX := Lib.hid hX
 replace hW := Lib.hid hW
 replace hH := Lib.hid hH
 have c66 := Lib.hid (hdc_at hh).2.2.1
 obtain ⟨bb, hbb⟩ : ∃ b, b = h.bits := ⟨_, rfl⟩
 rw [← hbb] at c66
 have HW := TWork bb (by rw [hbb]; exact hh.2.2.2.2.1)
 obtain ⟨Wk, hWk⟩ : ∃ k, k = mWork bb := ⟨_, rfl⟩
 rw [← hWk] at HW
 have hWl : Wk < 115792089237316195423570985008687907853269984665640564039457584007913129639936 := by rw [hWk]; exact mWork_lt bb
 obtain ⟨nd0, hnd0⟩ : ∃ n : Nd, n = ⟨X, h, -1, 0, Wk⟩ := ⟨_, rfl⟩
 have nok0 : NdOk nd0 := by rw [hnd0]; exact ⟨hX.out, hh, hWl⟩
 have hbt := node_built X h Wk hX.out hh
 rw [← hnd0] at hbt
 have l106 := Lib.hid (ndc_length nok0)
 have one106 := Lib.hid (List.all_eq_true.2 (ndc_one nd0))
 replace hbt := Lib.hid hbt
 replace HW := Lib.hid HW
 replace hbb := Lib.hid hbb
 replace hWk := Lib.hid hWk
 replace hnd0 := Lib.hid hnd0
 have nok : NdOk nd := by rw [hnd.out, ← hXe.out, ← hbb.out, ← hWk.out, ← hnd0.out]; exact nok0
 have hnn : nd = nd0 := by rw [hnd0.out, hnd.out, hXe.out, hWk.out, hbb.out]
 have nid : Hid (nd.id = X) := Lib.hid (by rw [hnd.out, hXe.out])
 have l106n : Hid ((ndc nd).length = 106) := Lib.hid (ndc_length nok)
 have one106n := Lib.hid (ndc_one nd)
 replace hnn := Lib.hid hnn
 replace nok := nok
 go_enter Tryd.func33, Tryd.ntmps33
 go_upto_region 1 with fail
 rw [← hW.out, ← hH.out]
 go_upto_region 2 with (first
  | ((with_reducible refine wpList_loadF 32 aH ?_ _ 68 h68.out Tryd.underlying32 ?_ ?_ ?_); rfl; rfl; kernel_rfl)
  | (go_at_call 17; refine (HI.out).mono ?_; rintro e w1 ⟨rfl, b1⟩)
  | ((with_reducible refine wpList_storeF 30 ((Below.refl w1.heap.size w1).alloc (Nat.le_refl _) _) (heap_alloc_new _ _) (Nat.le_refl _) (X.map bv) ?_ ?_ 32 l32.out ?_ ?_ ?_ ?_); rfl; rfl; kernel_rfl; exact z32.out; exact one32.out; intro w2 a2 b2 k2 z2; clear k2; replace z2 := Lib.hid z2))
 have b02 := bW.trans ((b1.mono bW.size).trans (b2.mono (Nat.le_trans bW.size b1.size)))
 have aH2 := (aH.below b1).below b2
 have T2 := T.below b02
 clear b1 b2 aH bW
 obtain ⟨g6, hg6⟩ : ∃ g, g = w1.heap.size := ⟨_, rfl⟩
 rw [← hg6] at a2 ⊢
 replace hg6 := Lib.hid hg6
 go_upto_region 3 with (first
  | ((with_reducible refine wpList_loadF 30 a2 ?_ _ 32 l32.out Tryd.underlying30 ?_ ?_ ?_); rfl; rfl; kernel_rfl)
  | (go_at_call 16; refine (HF.out w2 T2.ref).mono ?_; rintro e w3 ⟨rfl, b3⟩))
 have b03 := b02.trans (b3.mono b02.size)
 have aH3 := aH2.below b3
 have aX3 := a2.below b3
 have T3 := T2.below b3
 clear b3 a2 aH2 T2 b02
 go_upto_region 5 with fail
 refine wp_region_relO [⟨6, 9, 7, 141, ndc zeroNd, ndc nd0⟩] [] (by kernel_rfl) (by kernel_rfl) (by kernel_rfl) (by kernel_rfl) (by kernel_rfl) (by intro e he; cases he) (by simp) (by intro e he; cases he) ?_
 refine oPure rfl rfl rfl rfl (c := .agg (X.map bv).toArray) (fun w hw => exec_loadAv (aX3.below hw.nil) _ _ rfl rfl _ 32 l32.out Tryd.underlying30 rfl (by kernel_rfl)) (by simp only [Zs]; rfl) ?_
 refine oPure rfl rfl rfl rfl (c := .agg (hdc h).toArray) (fun w hw => exec_loadAv (aH3.below hw.nil) _ _ rfl rfl _ 68 h68.out Tryd.underlying32 rfl (by kernel_rfl)) (by simp only [Zs]; rfl) ?_
 refine oPure rfl rfl rfl rfl (c := .pointer (some ⟨H, 66, none⟩)) (fun w _ => by go_simp; first | done | rfl) (by simp only [Zs]; rfl) ?_
 refine oPure rfl rfl rfl rfl (c := .int .u32 (bb : Int)) (fun w hw => by have := (aH3.below hw.nil).cell 66 _ c66.out; go_simp; first | done | rfl) (by simp only [Zs]; rfl) ?_
 refine oCall1 rfl rfl rfl rfl (c := .agg (uc Wk).toArray) 57 #[.int .u32 (bb : Int)] (fun w => by go_simp) (fun w hw => (HW.out w).mono (by rintro e w' ⟨rfl, b⟩; exact ⟨rfl, b⟩)) (by simp only [Zs]; rfl) ?_
 refine oPure rfl rfl rfl rfl (c := .agg (ndc nd0).toArray) (fun w hw => exec_build (cs := ndc nd0) (ops := [(0, .tmp 24), (1, .tmp 25), (2, .const (.int .i64 (-1))), (4, .tmp 28)]) rfl hbt.out) (by simp only [Zs]; rfl) ?_
 refine oAlloc rfl rfl (fun ρ w => by unfold execOp; go_simp; rfl) ?_
 refine oStore rfl rfl (fun w hw => fill_take rfl rfl fun v _ => fill_end fun b hb h0 => ?_) ?_
 ·simp at hb
  subst hb
  exact bStoreRow h0 (zcN_len.trans l106.out.symm) _ _ _ rfl rfl rfl 106 l106.out (by kernel_rfl) one106.out
 refine oEnd fun w5 hw5 => fill_take rfl rfl fun v9 _ => fill_end fun hJ _ => ?_
 obtain ⟨g9, hb, hB, a9⟩ := hJ.at_ ⟨6, 9, 7, 141, ndc zeroNd, ndc nd0⟩ (List.mem_cons_self ..) rfl
 simp at hb
 subst hb
 replace a9 : Av w5 g9 141 (ndc nd0) := a9
 have b5 := hw5.nil
 have b05 := b03.trans (b5.mono b03.size)
 have aX5 := aX3.below b5
 have aH5 := aH3.below b5
 have T5 := T3.below b5
 have hg9 : w.heap.size ≤ g9 := Nat.le_trans b03.size hB
 have hg69 : g6 < g9 := Nat.lt_of_lt_of_le aX3.lt hB
 have hH9 : H < g9 := Nat.lt_of_lt_of_le aH3.lt hB
 clear hw5 hJ T3 b03 b5 aX3 aH3 hB
 simp only [List.set_cons_succ, List.set_cons_zero]
 have HL := Lib.hid (TLen _ ns w5 T5.ref)
 rw [hn1] at HL
 go_upto_region 13 with (go_at_call 58; refine (HL.out).mono ?_; rintro e w6 ⟨rfl, rfl⟩)
 rw [← hnn.out] at a9
 obtain ⟨wq, hwq⟩ : ∃ wq, wq = w5 := ⟨_, rfl⟩
 rw [← hwq] at a9 aX5 T5 b05 ⊢
 have Tq := T5
 have aN := a9
 have aXq := aX5
 have bq := b05
 clear T5 a9 aX5 b05 aH5 HL hwq
 obtain ⟨A, c, hv, Rv⟩ := Tq.rv
 obtain ⟨N, hN⟩ : ∃ N, N = ns.length := ⟨_, rfl⟩
 have Tq0 := Tq
 rw [hv] at Tq
 have avq := Tq.av
 have oq := Tq.own
 rw [← hN] at oq avq
 have mq := Tq.map
 have hMR := av_neM avq mq
 have hlim : most ≤ 1048576 := Tq.lim
 have hsml : N ≤ most := by rw [hN]; exact Tq.small
 have hfull : most ≤ N := by rw [hN]; exact hfull
 have tF : decide ((most : Int) ≤ (N : Int)) = true := by simp; omega
 have tF2 : decide (most ≤ N) = true := by simp; omega
 replace hv := Lib.hid hv
 replace hN := Lib.hid hN
 clear Tq Rv mq oq
 refine wp_region_rel [] Ext (by kernel_rfl) (by kernel_rfl) (by kernel_rfl) Ext.refl Ext.trans (by intro p hp; cases hp) ?_
 refine ZM ?_
 refine ZP (c := .bool false) (fun w _ => by go_simp; first | done | rfl) ?_
 refine ZM ?_
 refine ZM ?_
 refine ZP (c := .pointer (some ⟨R, 0, none⟩)) (fun w _ => by go_simp; first | done | rfl) ?_
 refine ZP (c := .pointer (some ⟨R, 1, none⟩)) (fun w _ => by go_simp; first | done | rfl) ?_
 refine ZP (c := .slice A N c) (fun w hw => by have := (avq.below hw.drew).cell 1 _ rfl; go_simp; first | done | rfl) ?_
 refine ZP (c := .int .i64 (N : Int)) (fun w _ => by go_simp; first | done | rfl) ?_
 refine ZM ?_
 refine ZP (c := .pointer (some ⟨R, 0, none⟩)) (fun w _ => by go_simp; first | done | rfl) ?_
 refine ZP (c := .pointer (some ⟨R, 0, none⟩)) (fun w _ => by go_simp; first | done | rfl) ?_
 refine ZP (c := .int .i64 (most : Int)) (fun w hw => by have := (avq.below hw.drew).cell 0 _ rfl; go_simp; first | done | rfl) ?_
 refine ZP (c := .bool true) (fun w _ => by have := tF; have := tF2; go_simp; first | done | rfl) ?_
 refine ZK ?_
 refine relEnd fun w9 hw9 => fill_end ?_
 have b9 := bq.trans (hw9.drew.mono bq.size)
 have T9 := Lib.hid (Tq0.below hw9.drew)
 clear avq Tq0 aN aXq
 go_wp2
 go_ret2
 exact ⟨rfl, ⟨v, T9.out⟩, b9.mono hbase, KeepT.ofBelow b9⟩
set_option maxRecDepth 100000 in
set_option maxHeartbeats 8000000 in
theorem TAdd_root (base R most : Nat) (v : Value) (Mp : Nat) (ns : List Nd) (h : Hd) (hh : h.ok) (w : World) (ht : Tabs w) (T : TAt w base R most v Mp ns) (hbase : base ≤ w.heap.size) (hk : tFind ns (hdId h) = none) (hn0 : ns = []) (hfull : ¬ most ≤ ns.length) :
  Calls Tryd.prog 33 #[.pointer (some ⟨R, 0, none⟩), .agg (hdc h).toArray] w fun e w' => e = .returned (.tuple #[.int .i64 (ns.length : Int), .int .i64 0]) ∧ (∃ v', TAt w' base R most v' Mp (ns ++ [⟨hdId h, h, -1, 0, mWork h.bits⟩])) ∧ Below base w w' ∧ KeepT w w' := by
 have hnew0 : mNode ns h = some ⟨hdId h, h, -1, 0, mWork h.bits⟩ := by rw [mNode, if_pos (by rw [hn0]; rfl)]
 have hRb := T.hR
 have hMb := T.hM
 have hn1 : ns.length = 0 := by rw [hn0]; rfl
 obtain ⟨nd, hnd⟩ : ∃ nd : Nd, nd = ⟨hdId h, h, -1, 0, mWork h.bits⟩ := ⟨_, rfl⟩
 rw [← hnd] at hnew0 ⊢
 have hnew := Lib.hid hnew0
 clear hnew0 hn0
 replace hnd := Lib.hid hnd
 obtain ⟨W, hW⟩ : ∃ W, W = w.alloc (.cells (hdc h).toArray 32) := ⟨_, rfl⟩
 obtain ⟨H, hH⟩ : ∃ H, H = w.heap.size := ⟨_, rfl⟩
 have bW : Below w.heap.size w W := by rw [hW]; exact (Below.refl _ _).alloc (Nat.le_refl _) _
 have aH : Av W H 32 (hdc h) := by rw [hW, hH]; exact heap_alloc_new _ _
 have h68 := Lib.hid (hdc_length hh)
 have HI := HdId h hh W (ht.below bW)
 have hX := hdId_length h
 obtain ⟨X, hXe⟩ : ∃ X, X = hdId h := ⟨_, rfl⟩
 rw [← hXe] at HI hX hk
 have l32 : Hid ((X.map bv).length = 32) := Lib.hid (by rw [List.length_map]; exact hX)
 have one32 := Lib.hid (List.all_eq_true.2 (bv_one X))
 have HF := fun w' (q : TRef w' (.pointer (some ⟨R, 0, none⟩)) ns) => TFind _ ns X hX w' q
 rw [hk] at HF
 have z32 := Lib.hid (show ((#[.int .u8 0, .int .u8 0, .int .u8 0, .int .u8 0, .int .u8 0, .int .u8 0, .int .u8 0, .int .u8 0, .int .u8 0, .int .u8 0, .int .u8 0, .int .u8 0, .int .u8 0, .int .u8 0, .int .u8 0, .int .u8 0, .int .u8 0, .int .u8 0, .int .u8 0, .int .u8 0, .int .u8 0, .int .u8 0, .int .u8 0, .int .u8 0, .int .u8 0, .int .u8 0, .int .u8 0, .int .u8 0, .int .u8 0, .int .u8 0, .int .u8 0, .int .u8 0] : Array Value)).size = 32 from rfl)
 replace hXe := Lib.hid hXe
 replace HI := Lib.hid HI
 replace HF := Lib.hid HF
 replace hk := Lib.hid hk
 replace hX := Lib.hid hX
 replace hW := Lib.hid hW
 replace hH := Lib.hid hH
 have c66 := Lib.hid (hdc_at hh).2.2.1
 obtain ⟨bb, hbb⟩ : ∃ b, b = h.bits := ⟨_, rfl⟩
 rw [← hbb] at c66
 have HW := TWork bb (by rw [hbb]; exact hh.2.2.2.2.1)
 obtain ⟨Wk, hWk⟩ : ∃ k, k = mWork bb := ⟨_, rfl⟩
 rw [← hWk] at HW
 have hWl : Wk < 115792089237316195423570985008687907853269984665640564039457584007913129639936 := by rw [hWk]; exact mWork_lt bb
 obtain ⟨nd0, hnd0⟩ : ∃ n : Nd, n = ⟨X, h, -1, 0, Wk⟩ := ⟨_, rfl⟩
 have nok0 : NdOk nd0 := by rw [hnd0]; exact ⟨hX.out, hh, hWl⟩
 have hbt := node_built X h Wk hX.out hh
 rw [← hnd0] at hbt
 have l106 := Lib.hid (ndc_length nok0)
 have one106 := Lib.hid (List.all_eq_true.2 (ndc_one nd0))
 replace hbt := Lib.hid hbt
 replace HW := Lib.hid HW
 replace hbb := Lib.hid hbb
 replace hWk := Lib.hid hWk
 replace hnd0 := Lib.hid hnd0
 have nok : NdOk nd := by rw [hnd.out, ← hXe.out, ← hbb.out, ← hWk.out, ← hnd0.out]; exact nok0
 have hnn : nd = nd0 := by rw [hnd0.out, hnd.out, hXe.out, hWk.out, hbb.out]
 have nid : Hid (nd.id = X) := Lib.hid (by rw [hnd.out, hXe.out])
 have l106n : Hid ((ndc nd).length = 106) := Lib.hid (ndc_length nok)
 have one106n := Lib.hid (ndc_one nd)
 replace hnn := Lib.hid hnn
 replace nok := nok
 go_enter Tryd.func33, Tryd.ntmps33
 go_upto_region 1 with fail
 rw [← hW.out, ← hH.out]
 go_upto_region 2 with (first
  | ((with_reducible refine wpList_loadF 32 aH ?_ _ 68 h68.out Tryd.underlying32 ?_ ?_ ?_); rfl; rfl; kernel_rfl)
  | (go_at_call 17; refine (HI.out).mono ?_; rintro e w1 ⟨rfl, b1⟩)
  | ((with_reducible refine wpList_storeF 30 ((Below.refl w1.heap.size w1).alloc (Nat.le_refl _) _) (heap_alloc_new _ _) (Nat.le_refl _) (X.map bv) ?_ ?_ 32 l32.out ?_ ?_ ?_ ?_); rfl; rfl; kernel_rfl; exact z32.out; exact one32.out; intro w2 a2 b2 k2 z2; clear k2; replace z2 := Lib.hid z2))
 have b02 := bW.trans ((b1.mono bW.size).trans (b2.mono (Nat.le_trans bW.size b1.size)))
 have aH2 := (aH.below b1).below b2
 have T2 := T.below b02
 clear b1 b2 aH bW
 obtain ⟨g6, hg6⟩ : ∃ g, g = w1.heap.size := ⟨_, rfl⟩
 rw [← hg6] at a2 ⊢
 replace hg6 := Lib.hid hg6
 go_upto_region 3 with (first
  | ((with_reducible refine wpList_loadF 30 a2 ?_ _ 32 l32.out Tryd.underlying30 ?_ ?_ ?_); rfl; rfl; kernel_rfl)
  | (go_at_call 16; refine (HF.out w2 T2.ref).mono ?_; rintro e w3 ⟨rfl, b3⟩))
 have b03 := b02.trans (b3.mono b02.size)
 have aH3 := aH2.below b3
 have aX3 := a2.below b3
 have T3 := T2.below b3
 clear b3 a2 aH2 T2 b02
 go_upto_region 5 with fail
 refine wp_region_relO [⟨6, 9, 7, 141, ndc zeroNd, ndc nd0⟩] [] (by kernel_rfl) (by kernel_rfl) (by kernel_rfl) (by kernel_rfl) (by kernel_rfl) (by intro e he; cases he) (by simp) (by intro e he; cases he) ?_
 refine oPure rfl rfl rfl rfl (c := .agg (X.map bv).toArray) (fun w hw => exec_loadAv (aX3.below hw.nil) _ _ rfl rfl _ 32 l32.out Tryd.underlying30 rfl (by kernel_rfl)) (by simp only [Zs]; rfl) ?_
 refine oPure rfl rfl rfl rfl (c := .agg (hdc h).toArray) (fun w hw => exec_loadAv (aH3.below hw.nil) _ _ rfl rfl _ 68 h68.out Tryd.underlying32 rfl (by kernel_rfl)) (by simp only [Zs]; rfl) ?_
 refine oPure rfl rfl rfl rfl (c := .pointer (some ⟨H, 66, none⟩)) (fun w _ => by go_simp; first | done | rfl) (by simp only [Zs]; rfl) ?_
 refine oPure rfl rfl rfl rfl (c := .int .u32 (bb : Int)) (fun w hw => by have := (aH3.below hw.nil).cell 66 _ c66.out; go_simp; first | done | rfl) (by simp only [Zs]; rfl) ?_
 refine oCall1 rfl rfl rfl rfl (c := .agg (uc Wk).toArray) 57 #[.int .u32 (bb : Int)] (fun w => by go_simp) (fun w hw => (HW.out w).mono (by rintro e w' ⟨rfl, b⟩; exact ⟨rfl, b⟩)) (by simp only [Zs]; rfl) ?_
 refine oPure rfl rfl rfl rfl (c := .agg (ndc nd0).toArray) (fun w hw => exec_build (cs := ndc nd0) (ops := [(0, .tmp 24), (1, .tmp 25), (2, .const (.int .i64 (-1))), (4, .tmp 28)]) rfl hbt.out) (by simp only [Zs]; rfl) ?_
 refine oAlloc rfl rfl (fun ρ w => by unfold execOp; go_simp; rfl) ?_
 refine oStore rfl rfl (fun w hw => fill_take rfl rfl fun v _ => fill_end fun b hb h0 => ?_) ?_
 ·simp at hb
  subst hb
  exact bStoreRow h0 (zcN_len.trans l106.out.symm) _ _ _ rfl rfl rfl 106 l106.out (by kernel_rfl) one106.out
 refine oEnd fun w5 hw5 => fill_take rfl rfl fun v9 _ => fill_end fun hJ _ => ?_
 obtain ⟨g9, hb, hB, a9⟩ := hJ.at_ ⟨6, 9, 7, 141, ndc zeroNd, ndc nd0⟩ (List.mem_cons_self ..) rfl
 simp at hb
 subst hb
 replace a9 : Av w5 g9 141 (ndc nd0) := a9
 have b5 := hw5.nil
 have b05 := b03.trans (b5.mono b03.size)
 have aX5 := aX3.below b5
 have aH5 := aH3.below b5
 have T5 := T3.below b5
 have hg9 : w.heap.size ≤ g9 := Nat.le_trans b03.size hB
 have hg69 : g6 < g9 := Nat.lt_of_lt_of_le aX3.lt hB
 have hH9 : H < g9 := Nat.lt_of_lt_of_le aH3.lt hB
 clear hw5 hJ T3 b03 b5 aX3 aH3 hB
 simp only [List.set_cons_succ, List.set_cons_zero]
 have HL := Lib.hid (TLen _ ns w5 T5.ref)
 rw [hn1] at HL
 go_upto_region 13 with (go_at_call 58; refine (HL.out).mono ?_; rintro e w6 ⟨rfl, rfl⟩)
 rw [← hnn.out] at a9
 obtain ⟨wq, hwq⟩ : ∃ wq, wq = w5 := ⟨_, rfl⟩
 rw [← hwq] at a9 aX5 T5 b05 ⊢
 have Tq := T5
 have aN := a9
 have aXq := aX5
 have bq := b05
 clear T5 a9 aX5 b05 aH5 HL hwq
 obtain ⟨A, c, hv, Rv⟩ := Tq.rv
 obtain ⟨N, hN⟩ : ∃ N, N = ns.length := ⟨_, rfl⟩
 have Tq0 := Tq
 rw [hv] at Tq
 have avq := Tq.av
 have oq := Tq.own
 rw [← hN] at oq avq
 have mq := Tq.map
 have hMR := av_neM avq mq
 have hlim : most ≤ 1048576 := Tq.lim
 have hsml : N ≤ most := by rw [hN]; exact Tq.small
 have hfull : ¬ most ≤ N := by rw [hN]; exact hfull
 have tF : decide ((most : Int) ≤ (N : Int)) = false := by simp; omega
 have tF2 : decide (most ≤ N) = false := by simp; omega
 have okq : TOk (ns ++ [nd]) := Tq.ok.snoc hh hnew.out (by rw [← hXe.out]; exact hk.out)
 have tfn : tFind ns nd.id = none := by rw [nid.out]; exact hk.out
 replace okq := Lib.hid okq
 replace tfn := Lib.hid tfn
 replace hv := Lib.hid hv
 replace hN := Lib.hid hN
 clear Tq Rv Tq0
 refine wp_region_rel [] Ext (by kernel_rfl) (by kernel_rfl) (by kernel_rfl) Ext.refl Ext.trans (by intro p hp; cases hp) ?_
 refine ZM ?_
 refine ZP (c := .bool false) (fun w _ => by go_simp; first | done | rfl) ?_
 refine ZM ?_
 refine ZM ?_
 refine ZP (c := .pointer (some ⟨R, 0, none⟩)) (fun w _ => by go_simp; first | done | rfl) ?_
 refine ZP (c := .pointer (some ⟨R, 1, none⟩)) (fun w _ => by go_simp; first | done | rfl) ?_
 refine ZP (c := .slice A N c) (fun w hw => by have := (avq.below hw.drew).cell 1 _ rfl; go_simp; first | done | rfl) ?_
 refine ZP (c := .int .i64 (N : Int)) (fun w _ => by go_simp; first | done | rfl) ?_
 refine ZM ?_
 refine ZP (c := .pointer (some ⟨R, 0, none⟩)) (fun w _ => by go_simp; first | done | rfl) ?_
 refine ZP (c := .pointer (some ⟨R, 0, none⟩)) (fun w _ => by go_simp; first | done | rfl) ?_
 refine ZP (c := .int .i64 (most : Int)) (fun w hw => by have := (avq.below hw.drew).cell 0 _ rfl; go_simp; first | done | rfl) ?_
 refine ZP (c := .bool false) (fun w _ => by have := tF; have := tF2; go_simp; first | done | rfl) ?_
 refine ZK ?_
 refine relEnd fun w9 hw9 => fill_end ?_
 have e9 := hw9.drew
 have bq := bq.trans (e9.mono bq.size)
 have avq := avq.below e9
 have oq := own_below oq e9
 have mq := mq.below e9
 have aN := aN.below e9
 have aXq := aXq.below e9
 clear hw9 e9
 have c1 := avq.cell 1 _ rfl
 go_upto_region 16 with fail
 clear c1
 refine wp_region_relM 7 7 [(6, fun v w' => ∃ g, v = .slice (some ⟨g, 0, none⟩) 1 1 ∧ w9.heap.size ≤ g ∧ Av w' g 141 (ndc nd))] Ext (by kernel_rfl) (by simp only [waitOn, List.push_toArray, List.cons_append, List.nil_append]; rfl) rfl (by decide) (by kernel_rfl) (by kernel_rfl) (fun _ _ _ h => h) (by kernel_rfl) (by kernel_rfl) (by kernel_rfl) (by kernel_rfl) Ext.refl Ext.trans (by
   intro p hp v w w' hR
   simp only [List.mem_singleton] at hp
   subst hp
   rintro ⟨g, e, h1, h2⟩
   exact ⟨g, e, h1, h2.below hR⟩) ?_
 refine ZM ?_
 refine ZM ?_
 refine ZP (c := .pointer (some ⟨R, 0, none⟩)) (fun w _ => by go_simp; first | done | rfl) ?_
 refine ZP (c := .pointer (some ⟨R, 1, none⟩)) (fun w _ => by go_simp; first | done | rfl) ?_
 refine ZP (c := .slice A N c) (fun w hw => by have := (avq.below hw.drew).cell 1 _ rfl; go_simp; first | done | rfl) ?_
 refine ZP (c := .agg (ndc nd).toArray) (fun w hw => exec_loadAv (aN.below hw.drew) _ _ rfl rfl _ 106 l106n.out Tryd.underlying141 rfl (by kernel_rfl)) ?_
 refine relWord _ rfl (fun w hw => fill_none rfl (relOp_yes rfl ?_)) ?_
 ·rw [exec_build1 Tryd.underlying118 infoNt zeroNt (by decide) (by decide) _ (ndc nd) l106n.out _ rfl rfl]
  exact ⟨(Below.refl _ _).alloc (Nat.le_refl _) _, _, rfl, hw.drew.size, heap_alloc_new _ _⟩
 refine relEnd fun w6 hw6 => fill_take rfl rfl fun v hv => fill_end ?_
 obtain ⟨q, rfl, hq, aq⟩ := hv
 simp only [List.set_cons_succ, List.set_cons_zero, List.drop_succ_cons, List.drop_zero]
 have e6 := hw6.drew
 have bq := bq.trans (e6.mono bq.size)
 have av6 := avq.below e6
 have o6 := own_below oq e6
 have m6 := mq.below e6
 have aX6 := aXq.below e6
 have hbs : base ≤ w6.heap.size := Nat.le_trans hbase bq.size
 have hb6 := bq.mono hbase
 have K6 := KeepT.ofBelow bq
 have hle : (N + 1) * 160 ≤ 140737488355328 := by omega
 clear hw6 e6 aXq avq oq mq aN hq bq
 go_upto_region 17 with (at_builtin; refine wpList_appE Tryd.underlying118 infoNt zeroNt (by decide) o6 hbs (ndc nd) 1 1 aq.rd (by rw [l106n.out]) one106n.out (by omega) hle rfl (.tmp 87) (.tmp 89) rfl rfl rfl ?_; intro M2 w7 o7 gr7 ob7; obtain ⟨A2, c2, rfl, hcq, _⟩ := own_form o7; have hbl := fun k hk => (World.ownsRow.lt o6 k hk).1; have b7 := hb6.grown gr7 hbs hbl; have fr7 := Fr.of_grown gr7; have ne6 := own_neT o6 av6 (by decide); have K7 := K6.trans (KeepT.grown o6 gr7); have av7 := fr7.av av6 (fun e => ne6 e.symm); have m7 := m6.block (fun b e => gr7.block b (by cases e; exact m6.lt) (by cases e; exact fun e => own_neM o6 m6 e.symm)); have aX7 := fr7.av aX6 (fun e => own_neT o6 aX6 (by decide) e.symm); have f7 := frozen_of_row _ _ 1 _ _ av7; have c7 := av7.cell 1 _ rfl)
 have av8 := av7.set 1 (.slice A2 (N + 1) c2)
 have K8 := K7.trans (KeepT.setR (i := 1) av7 (.slice A2 (N + 1) c2))
 have fr8 := Fr.setCell w7 ⟨R, 1, none⟩ (.slice A2 (N + 1) c2)
 have o8 := own_fr o7 fr8 (fun j e h => own_neT o7 av7 (by decide) (by rw [e, h]))
 have m8 := m7.block (w' := w7.setCell ⟨R, 1, none⟩ (.slice A2 (N + 1) c2)) (fun b e => heap_setCell_other _ _ _ _ (by cases e; exact fun e => hMR e.symm))
 have hgR : g6 ≠ R := by rintro rfl; have := aX7.symm.trans av7; injection Option.some.inj this with _ h2; revert h2; decide
 have aX8 := fr8.av aX7 hgR
 have b8 : Below base w (w7.setCell ⟨R, 1, none⟩ (.slice A2 (N + 1) c2)) := b7.setCell (p := ⟨R, 1, none⟩) hRb _
 obtain ⟨w8, hw8⟩ : ∃ w8, w8 = w7.setCell ⟨R, 1, none⟩ (.slice A2 (N + 1) c2) := ⟨_, rfl⟩
 rw [← hw8] at av8 o8 m8 aX8 b8 K8 ⊢
 clear K6 K7 f7 c7 fr8 fr7 av7 m7 aX7 gr7 ob7 o7 o6 m6 av6 aX6 b7 hb6 hle aq hw8 hbl ne6
 refine wp_region_relT 6 [] Ext (by kernel_rfl) (by kernel_rfl) (by kernel_rfl) (by kernel_rfl) (by kernel_rfl) Ext.refl Ext.trans (by intro p hp; cases hp) ?_
 refine ZM ?_
 refine ZP (c := .pointer (some ⟨R, 0, none⟩)) (fun w _ => by go_simp; first | done | rfl) ?_
 refine ZP (c := .pointer (some ⟨R, 2, none⟩)) (fun w _ => by go_simp; first | done | rfl) ?_
 refine ZP (c := .map (some Mp)) (fun w hw => by have := (av8.below hw.drew).cell 2 _ rfl; go_simp; first | done | rfl) ?_
 refine ZP (c := .agg (hcs X)) (fun w hw => exec_loadAv (l := X.map bv) (aX8.below hw.drew) _ _ rfl rfl _ 32 l32.out Tryd.underlying30 rfl (by kernel_rfl)) ?_
 refine ZM ?_
 refine relEnd fun wa hwa => fill_end ?_
 simp only [List.drop_succ_cons, List.drop_zero]
 have ea := hwa.drew
 have ava := av8.below ea
 have oa := own_below o8 ea
 have ma := m8.below ea
 have Ka := K8.trans (KeepT.ofBelow ea)
 have ba : Below base w wa := b8.trans (ea.mono (Nat.le_trans hbase b8.size))
 clear av8 o8 m8 b8 ea hwa aX8 K8
 refine wpList_mapT ma (by rw [← hN.out]; omega) nd nok.id tfn.out rfl (by rw [nid.out]; rfl) (by rw [← hN.out]; rfl) ?_
 intro wb mb grb
 have frb := Fr.of_grown grb
 have avb := frb.av ava (fun e => hMR (Option.some.inj e))
 have ob := own_fr oa frb (fun k hk e => own_neM oa ma (by rw [hk, e]))
 have bb := ba.grown grb (Nat.le_trans hbase ba.size) (fun k hk => by cases hk; exact hMb)
 have hfin : TAt wb base R most (.slice A2 (N + 1) c2) Mp (ns ++ [nd]) := by
  refine ⟨avb, ?_, mb, ?_, hlim, hRb, hMb, okq.out⟩
  ·rw [List.length_append, List.length_singleton, ← hN.out]
   have : ndl (ns ++ [nd]) = ndl ns ++ ndc nd := by simp [ndl]
   rw [this]
   exact ob
  ·rw [List.length_append, List.length_singleton, ← hN.out]; omega
 have Kb := Lib.hid (Ka.trans (KeepT.map ma grb))
 replace hfin := Lib.hid hfin
 replace bb := Lib.hid bb
 clear avb ob mb frb ava oa ma ba grb Ka
 go_wp2
 go_ret2
 exact ⟨by rw [← hN.out]; rfl, ⟨_, hfin.out⟩, bb.out, Kb.out⟩
set_option maxRecDepth 100000 in
set_option maxHeartbeats 4000000 in
theorem TAdd_orphan (base R most : Nat) (v : Value) (Mp : Nat) (ns : List Nd) (h : Hd) (hh : h.ok) (w : World) (ht : Tabs w) (T : TAt w base R most v Mp ns) (hbase : base ≤ w.heap.size) (hk : tFind ns (hdId h) = none) (hn0 : 0 < ns.length) (hp : tFind ns h.prev = none) :
  Calls Tryd.prog 33 #[.pointer (some ⟨R, 0, none⟩), .agg (hdc h).toArray] w fun e w' => e = .returned (.tuple #[.int .i64 (-1), .int .i64 9]) ∧ (∃ v', TAt w' base R most v' Mp (ns)) ∧ Below base w w' ∧ KeepT w w' := by
 obtain ⟨W, hW⟩ : ∃ W, W = w.alloc (.cells (hdc h).toArray 32) := ⟨_, rfl⟩
 obtain ⟨H, hH⟩ : ∃ H, H = w.heap.size := ⟨_, rfl⟩
 have bW : Below w.heap.size w W := by rw [hW]; exact (Below.refl _ _).alloc (Nat.le_refl _) _
 have aH : Av W H 32 (hdc h) := by rw [hW, hH]; exact heap_alloc_new _ _
 have h68 := Lib.hid (hdc_length hh)
 have HI := HdId h hh W (ht.below bW)
 have hX := hdId_length h
 obtain ⟨X, hXe⟩ : ∃ X, X = hdId h := ⟨_, rfl⟩
 rw [← hXe] at HI hX hk
 have l32 : Hid ((X.map bv).length = 32) := Lib.hid (by rw [List.length_map]; exact hX)
 have one32 := Lib.hid (List.all_eq_true.2 (bv_one X))
 have HF := fun w' (q : TRef w' (.pointer (some ⟨R, 0, none⟩)) ns) => TFind _ ns X hX w' q
 rw [hk] at HF
 have z32 := Lib.hid (show ((#[.int .u8 0, .int .u8 0, .int .u8 0, .int .u8 0, .int .u8 0, .int .u8 0, .int .u8 0, .int .u8 0, .int .u8 0, .int .u8 0, .int .u8 0, .int .u8 0, .int .u8 0, .int .u8 0, .int .u8 0, .int .u8 0, .int .u8 0, .int .u8 0, .int .u8 0, .int .u8 0, .int .u8 0, .int .u8 0, .int .u8 0, .int .u8 0, .int .u8 0, .int .u8 0, .int .u8 0, .int .u8 0, .int .u8 0, .int .u8 0, .int .u8 0, .int .u8 0] : Array Value)).size = 32 from rfl)
 replace hXe := Lib.hid hXe
 replace HI := Lib.hid HI
 replace HF := Lib.hid HF
 replace hk := Lib.hid hk
 replace hX := Lib.hid hX
 replace hW := Lib.hid hW
 replace hH := Lib.hid hH
 have c66 := Lib.hid (hdc_at hh).2.2.1
 obtain ⟨bb, hbb⟩ : ∃ b, b = h.bits := ⟨_, rfl⟩
 rw [← hbb] at c66
 have HW := TWork bb (by rw [hbb]; exact hh.2.2.2.2.1)
 obtain ⟨Wk, hWk⟩ : ∃ k, k = mWork bb := ⟨_, rfl⟩
 rw [← hWk] at HW
 have hWl : Wk < 115792089237316195423570985008687907853269984665640564039457584007913129639936 := by rw [hWk]; exact mWork_lt bb
 obtain ⟨nd0, hnd0⟩ : ∃ n : Nd, n = ⟨X, h, -1, 0, Wk⟩ := ⟨_, rfl⟩
 have nok0 : NdOk nd0 := by rw [hnd0]; exact ⟨hX.out, hh, hWl⟩
 have hbt := node_built X h Wk hX.out hh
 rw [← hnd0] at hbt
 have l106 := Lib.hid (ndc_length nok0)
 have one106 := Lib.hid (List.all_eq_true.2 (ndc_one nd0))
 replace hbt := Lib.hid hbt
 replace HW := Lib.hid HW
 replace hbb := Lib.hid hbb
 replace hWk := Lib.hid hWk
 replace hnd0 := Lib.hid hnd0
 go_enter Tryd.func33, Tryd.ntmps33
 go_upto_region 1 with fail
 rw [← hW.out, ← hH.out]
 go_upto_region 2 with (first
  | ((with_reducible refine wpList_loadF 32 aH ?_ _ 68 h68.out Tryd.underlying32 ?_ ?_ ?_); rfl; rfl; kernel_rfl)
  | (go_at_call 17; refine (HI.out).mono ?_; rintro e w1 ⟨rfl, b1⟩)
  | ((with_reducible refine wpList_storeF 30 ((Below.refl w1.heap.size w1).alloc (Nat.le_refl _) _) (heap_alloc_new _ _) (Nat.le_refl _) (X.map bv) ?_ ?_ 32 l32.out ?_ ?_ ?_ ?_); rfl; rfl; kernel_rfl; exact z32.out; exact one32.out; intro w2 a2 b2 k2 z2; clear k2; replace z2 := Lib.hid z2))
 have b02 := bW.trans ((b1.mono bW.size).trans (b2.mono (Nat.le_trans bW.size b1.size)))
 have aH2 := (aH.below b1).below b2
 have T2 := T.below b02
 clear b1 b2 aH bW
 obtain ⟨g6, hg6⟩ : ∃ g, g = w1.heap.size := ⟨_, rfl⟩
 rw [← hg6] at a2 ⊢
 replace hg6 := Lib.hid hg6
 go_upto_region 3 with (first
  | ((with_reducible refine wpList_loadF 30 a2 ?_ _ 32 l32.out Tryd.underlying30 ?_ ?_ ?_); rfl; rfl; kernel_rfl)
  | (go_at_call 16; refine (HF.out w2 T2.ref).mono ?_; rintro e w3 ⟨rfl, b3⟩))
 have b03 := b02.trans (b3.mono b02.size)
 have aH3 := aH2.below b3
 have aX3 := a2.below b3
 have T3 := T2.below b3
 clear b3 a2 aH2 T2 b02
 go_upto_region 5 with fail
 refine wp_region_relO [⟨6, 9, 7, 141, ndc zeroNd, ndc nd0⟩] [] (by kernel_rfl) (by kernel_rfl) (by kernel_rfl) (by kernel_rfl) (by kernel_rfl) (by intro e he; cases he) (by simp) (by intro e he; cases he) ?_
 refine oPure rfl rfl rfl rfl (c := .agg (X.map bv).toArray) (fun w hw => exec_loadAv (aX3.below hw.nil) _ _ rfl rfl _ 32 l32.out Tryd.underlying30 rfl (by kernel_rfl)) (by simp only [Zs]; rfl) ?_
 refine oPure rfl rfl rfl rfl (c := .agg (hdc h).toArray) (fun w hw => exec_loadAv (aH3.below hw.nil) _ _ rfl rfl _ 68 h68.out Tryd.underlying32 rfl (by kernel_rfl)) (by simp only [Zs]; rfl) ?_
 refine oPure rfl rfl rfl rfl (c := .pointer (some ⟨H, 66, none⟩)) (fun w _ => by go_simp; first | done | rfl) (by simp only [Zs]; rfl) ?_
 refine oPure rfl rfl rfl rfl (c := .int .u32 (bb : Int)) (fun w hw => by have := (aH3.below hw.nil).cell 66 _ c66.out; go_simp; first | done | rfl) (by simp only [Zs]; rfl) ?_
 refine oCall1 rfl rfl rfl rfl (c := .agg (uc Wk).toArray) 57 #[.int .u32 (bb : Int)] (fun w => by go_simp) (fun w hw => (HW.out w).mono (by rintro e w' ⟨rfl, b⟩; exact ⟨rfl, b⟩)) (by simp only [Zs]; rfl) ?_
 refine oPure rfl rfl rfl rfl (c := .agg (ndc nd0).toArray) (fun w hw => exec_build (cs := ndc nd0) (ops := [(0, .tmp 24), (1, .tmp 25), (2, .const (.int .i64 (-1))), (4, .tmp 28)]) rfl hbt.out) (by simp only [Zs]; rfl) ?_
 refine oAlloc rfl rfl (fun ρ w => by unfold execOp; go_simp; rfl) ?_
 refine oStore rfl rfl (fun w hw => fill_take rfl rfl fun v _ => fill_end fun b hb h0 => ?_) ?_
 ·simp at hb
  subst hb
  exact bStoreRow h0 (zcN_len.trans l106.out.symm) _ _ _ rfl rfl rfl 106 l106.out (by kernel_rfl) one106.out
 refine oEnd fun w5 hw5 => fill_take rfl rfl fun v9 _ => fill_end fun hJ _ => ?_
 obtain ⟨g9, hb, hB, a9⟩ := hJ.at_ ⟨6, 9, 7, 141, ndc zeroNd, ndc nd0⟩ (List.mem_cons_self ..) rfl
 simp at hb
 subst hb
 replace a9 : Av w5 g9 141 (ndc nd0) := a9
 have b5 := hw5.nil
 have b05 := b03.trans (b5.mono b03.size)
 have aX5 := aX3.below b5
 have aH5 := aH3.below b5
 have T5 := T3.below b5
 have hg9 : w.heap.size ≤ g9 := Nat.le_trans b03.size hB
 have hg69 : g6 < g9 := Nat.lt_of_lt_of_le aX3.lt hB
 have hH9 : H < g9 := Nat.lt_of_lt_of_le aH3.lt hB
 clear hw5 hJ T3 b03 b5 aX3 aH3 hB
 simp only [List.set_cons_succ, List.set_cons_zero]
 have HL := Lib.hid (TLen _ ns w5 T5.ref)
 have hl0 : decide ((0 : Int) < (ns.length : Int)) = true := by simp; omega
 have hl0' : decide (0 < ns.length) = true := by simp; omega
 have HP := TFind (.pointer (some ⟨R, 0, none⟩)) ns h.prev hh.2.1 w5 T5.ref
 rw [hp] at HP
 replace HP := Lib.hid HP
 have p32 : Hid ((h.prev.map bv).length = 32) := Lib.hid (by rw [List.length_map]; exact hh.2.1)
 have rgP := Lib.hid (Av.hd_prev aH5)
 go_upto_region 7 with (go_at_call 58; refine (HL.out).mono ?_; rintro e w6 ⟨rfl, rfl⟩)
 go_wp2_with (first
  | ((with_reducible refine wpList_loadMF 30 (h.prev.map bv) rgP.out ?_ _ Tryd.underlying30 ?_ ?_ ?_); rfl; rfl; (rw [p32.out]; kernel_rfl))
  | (go_at_call 16; refine (HP.out).mono ?_; rintro e w7 ⟨rfl, b7⟩))
 go_ret2
 exact ⟨rfl, ⟨v, T5.below b7⟩, (b05.trans (b7.mono b05.size)).mono hbase, KeepT.ofBelow (b05.trans (b7.mono b05.size))⟩
set_option maxRecDepth 100000 in
set_option maxHeartbeats 8000000 in
theorem TAdd_childF (base R most : Nat) (v : Value) (Mp : Nat) (ns : List Nd) (h : Hd) (hh : h.ok) (w : World) (ht : Tabs w) (T : TAt w base R most v Mp ns) (hbase : base ≤ w.heap.size) (hk : tFind ns (hdId h) = none) (hn0 : 0 < ns.length) (j : Nat) (x : Nd) (hp : tFind ns h.prev = some j) (hx : ns[j]? = some x) (hfull : most ≤ ns.length) :
  Calls Tryd.prog 33 #[.pointer (some ⟨R, 0, none⟩), .agg (hdc h).toArray] w fun e w' => e = .returned (.tuple #[.int .i64 (-1), .int .i64 12]) ∧ (∃ v', TAt w' base R most v' Mp (ns)) ∧ Below base w w' ∧ KeepT w w' := by
 have hnew0 : mNode ns h = some ⟨hdId h, h, (j : Int), x.hgt + 1, (x.wrk + mWork h.bits) % 115792089237316195423570985008687907853269984665640564039457584007913129639936⟩ := by rw [mNode, if_neg (by omega), hp]; simp only [hx]
 have hRb := T.hR
 have hMb := T.hM
 obtain ⟨nd, hnd⟩ : ∃ nd : Nd, nd = ⟨hdId h, h, (j : Int), x.hgt + 1, (x.wrk + mWork h.bits) % 115792089237316195423570985008687907853269984665640564039457584007913129639936⟩ := ⟨_, rfl⟩
 rw [← hnd] at hnew0 
 have hnew := Lib.hid hnew0
 clear hnew0
 replace hnd := Lib.hid hnd
 have hjl : j < ns.length := tFind_lt hp
 have hvl : ∀ k, v.ownBlock = some k → k < w.heap.size := fun k hk => (World.ownsRow.lt T.own k hk).2
 have xok := T.ok.nds x (List.mem_of_getElem? hx)
 have x106 := Lib.hid (ndc_length xok)
 have xone := Lib.hid (List.all_eq_true.2 (ndc_one x))
 obtain ⟨_, q101⟩ := ndc_at xok
 obtain ⟨G, hG⟩ : ∃ G, G = x.hgt := ⟨_, rfl⟩
 rw [← hG] at q101
 have hG0 : (G : Int) < 1048576 := by
  have := T.ok.hgt_le hjl
  rw [tHgt_at hx] at this
  have := T.small
  have := T.lim
  omega
 have hGn : (0 : Int) ≤ (G : Int) := by omega
 have hGw : Hid (IntKind.i64.wrap ((G : Int) + 1) = (G : Int) + 1) := Lib.hid (by rw [IntKind.wrap_i64]; omega)
 have HS := fun (y : Nat) (hy : y < 115792089237316195423570985008687907853269984665640564039457584007913129639936) => UAdd x.wrk y xok.wrk hy
 replace q101 := Lib.hid q101
 replace hG := Lib.hid hG
 replace HS := Lib.hid HS
 replace hx := Lib.hid hx
 obtain ⟨W, hW⟩ : ∃ W, W = w.alloc (.cells (hdc h).toArray 32) := ⟨_, rfl⟩
 obtain ⟨H, hH⟩ : ∃ H, H = w.heap.size := ⟨_, rfl⟩
 have bW : Below w.heap.size w W := by rw [hW]; exact (Below.refl _ _).alloc (Nat.le_refl _) _
 have aH : Av W H 32 (hdc h) := by rw [hW, hH]; exact heap_alloc_new _ _
 have h68 := Lib.hid (hdc_length hh)
 have HI := HdId h hh W (ht.below bW)
 have hX := hdId_length h
 obtain ⟨X, hXe⟩ : ∃ X, X = hdId h := ⟨_, rfl⟩
 rw [← hXe] at HI hX hk
 have l32 : Hid ((X.map bv).length = 32) := Lib.hid (by rw [List.length_map]; exact hX)
 have one32 := Lib.hid (List.all_eq_true.2 (bv_one X))
 have HF := fun w' (q : TRef w' (.pointer (some ⟨R, 0, none⟩)) ns) => TFind _ ns X hX w' q
 rw [hk] at HF
 have z32 := Lib.hid (show ((#[.int .u8 0, .int .u8 0, .int .u8 0, .int .u8 0, .int .u8 0, .int .u8 0, .int .u8 0, .int .u8 0, .int .u8 0, .int .u8 0, .int .u8 0, .int .u8 0, .int .u8 0, .int .u8 0, .int .u8 0, .int .u8 0, .int .u8 0, .int .u8 0, .int .u8 0, .int .u8 0, .int .u8 0, .int .u8 0, .int .u8 0, .int .u8 0, .int .u8 0, .int .u8 0, .int .u8 0, .int .u8 0, .int .u8 0, .int .u8 0, .int .u8 0, .int .u8 0] : Array Value)).size = 32 from rfl)
 replace hXe := Lib.hid hXe
 replace HI := Lib.hid HI
 replace HF := Lib.hid HF
 replace hk := Lib.hid hk
 replace hX := Lib.hid hX
 replace hW := Lib.hid hW
 replace hH := Lib.hid hH
 have c66 := Lib.hid (hdc_at hh).2.2.1
 obtain ⟨bb, hbb⟩ : ∃ b, b = h.bits := ⟨_, rfl⟩
 rw [← hbb] at c66
 have HW := TWork bb (by rw [hbb]; exact hh.2.2.2.2.1)
 obtain ⟨Wk, hWk⟩ : ∃ k, k = mWork bb := ⟨_, rfl⟩
 rw [← hWk] at HW
 have hWl : Wk < 115792089237316195423570985008687907853269984665640564039457584007913129639936 := by rw [hWk]; exact mWork_lt bb
 obtain ⟨nd0, hnd0⟩ : ∃ n : Nd, n = ⟨X, h, -1, 0, Wk⟩ := ⟨_, rfl⟩
 have nok0 : NdOk nd0 := by rw [hnd0]; exact ⟨hX.out, hh, hWl⟩
 have hbt := node_built X h Wk hX.out hh
 rw [← hnd0] at hbt
 have l106 := Lib.hid (ndc_length nok0)
 have one106 := Lib.hid (List.all_eq_true.2 (ndc_one nd0))
 replace hbt := Lib.hid hbt
 replace HW := Lib.hid HW
 replace hbb := Lib.hid hbb
 replace hWk := Lib.hid hWk
 replace hnd0 := Lib.hid hnd0
 obtain ⟨nd1, hnd1⟩ : ∃ n : Nd, n = ⟨X, h, (j : Int), G + 1, Wk⟩ := ⟨_, rfl⟩
 have nok1 : NdOk nd1 := by rw [hnd1]; exact ⟨hX.out, hh, hWl⟩
 have hlay : ((ndc nd0).set 100 (.int .i64 (j : Int))).set 101 (.int .i64 ((G : Int) + 1)) = ndc nd1 := by
  rw [ndc_par nd0 nok0, show ((G : Int) + 1) = ((G + 1 : Nat) : Int) by omega]
  refine (ndc_hgt { nd0 with par := (j : Int) } ⟨nok0.id, nok0.head, nok0.wrk⟩ (G + 1)).trans ?_
  rw [hnd1, hnd0.out]
 obtain ⟨Sm, hSm⟩ : ∃ s, s = (x.wrk + Wk) % 115792089237316195423570985008687907853269984665640564039457584007913129639936 := ⟨_, rfl⟩
 have HS2 := HS.out Wk hWl
 rw [← hSm] at HS2
 obtain ⟨ob, hob⟩ : ∃ o, o = decide (115792089237316195423570985008687907853269984665640564039457584007913129639936 ≤ x.wrk + Wk) := ⟨_, rfl⟩
 rw [← hob] at HS2
 replace hob := Lib.hid hob
 have hnn : nd = { nd1 with wrk := Sm } := by rw [hnd1, hnd.out, hXe.out, hSm, hWk.out, hbb.out, hG.out]
 have nok : NdOk nd := by rw [hnn]; exact ⟨nok1.id, nok1.head, by rw [hSm]; exact Nat.mod_lt _ (by omega)⟩
 have nid : Hid (nd.id = X) := Lib.hid (by rw [hnd.out, hXe.out])
 have l106n : Hid ((ndc nd).length = 106) := Lib.hid (ndc_length nok)
 have one106n := Lib.hid (ndc_one nd)
 have l1 : (nd1.id.map bv ++ (hdc nd1.head ++ ([.int .i64 nd1.par, .int .i64 (nd1.hgt : Int)] : List Value))).length = 102 := by simp [nok1.id, hdc_length nok1.head]
 have hset : (nd1.id.map bv ++ (hdc nd1.head ++ ([.int .i64 nd1.par, .int .i64 (nd1.hgt : Int)] : List Value))) ++ uc Sm ++ [] = ndc nd := by rw [hnn, ndc_split]
 have hw1 : nd1.wrk = Wk := by rw [hnd1]
 have hsp := ndc_split nd1
 rw [hw1] at hsp
 replace HS2 := Lib.hid HS2
 replace hlay := Lib.hid hlay
 replace hSm := Lib.hid hSm
 replace hnn := Lib.hid hnn
 replace hnd1 := Lib.hid hnd1
 replace l1 := Lib.hid l1
 replace hset := Lib.hid hset
 replace hw1 := Lib.hid hw1
 replace hsp := Lib.hid hsp
 replace hWl := Lib.hid hWl
 go_enter Tryd.func33, Tryd.ntmps33
 go_upto_region 1 with fail
 rw [← hW.out, ← hH.out]
 go_upto_region 2 with (first
  | ((with_reducible refine wpList_loadF 32 aH ?_ _ 68 h68.out Tryd.underlying32 ?_ ?_ ?_); rfl; rfl; kernel_rfl)
  | (go_at_call 17; refine (HI.out).mono ?_; rintro e w1 ⟨rfl, b1⟩)
  | ((with_reducible refine wpList_storeF 30 ((Below.refl w1.heap.size w1).alloc (Nat.le_refl _) _) (heap_alloc_new _ _) (Nat.le_refl _) (X.map bv) ?_ ?_ 32 l32.out ?_ ?_ ?_ ?_); rfl; rfl; kernel_rfl; exact z32.out; exact one32.out; intro w2 a2 b2 k2 z2; clear k2; replace z2 := Lib.hid z2))
 have b02 := bW.trans ((b1.mono bW.size).trans (b2.mono (Nat.le_trans bW.size b1.size)))
 have aH2 := (aH.below b1).below b2
 have T2 := T.below b02
 clear b1 b2 aH bW
 obtain ⟨g6, hg6⟩ : ∃ g, g = w1.heap.size := ⟨_, rfl⟩
 rw [← hg6] at a2 ⊢
 replace hg6 := Lib.hid hg6
 go_upto_region 3 with (first
  | ((with_reducible refine wpList_loadF 30 a2 ?_ _ 32 l32.out Tryd.underlying30 ?_ ?_ ?_); rfl; rfl; kernel_rfl)
  | (go_at_call 16; refine (HF.out w2 T2.ref).mono ?_; rintro e w3 ⟨rfl, b3⟩))
 have b03 := b02.trans (b3.mono b02.size)
 have aH3 := aH2.below b3
 have aX3 := a2.below b3
 have T3 := T2.below b3
 clear b3 a2 aH2 T2 b02
 go_upto_region 5 with fail
 refine wp_region_relO [⟨6, 9, 7, 141, ndc zeroNd, ndc nd0⟩] [] (by kernel_rfl) (by kernel_rfl) (by kernel_rfl) (by kernel_rfl) (by kernel_rfl) (by intro e he; cases he) (by simp) (by intro e he; cases he) ?_
 refine oPure rfl rfl rfl rfl (c := .agg (X.map bv).toArray) (fun w hw => exec_loadAv (aX3.below hw.nil) _ _ rfl rfl _ 32 l32.out Tryd.underlying30 rfl (by kernel_rfl)) (by simp only [Zs]; rfl) ?_
 refine oPure rfl rfl rfl rfl (c := .agg (hdc h).toArray) (fun w hw => exec_loadAv (aH3.below hw.nil) _ _ rfl rfl _ 68 h68.out Tryd.underlying32 rfl (by kernel_rfl)) (by simp only [Zs]; rfl) ?_
 refine oPure rfl rfl rfl rfl (c := .pointer (some ⟨H, 66, none⟩)) (fun w _ => by go_simp; first | done | rfl) (by simp only [Zs]; rfl) ?_
 refine oPure rfl rfl rfl rfl (c := .int .u32 (bb : Int)) (fun w hw => by have := (aH3.below hw.nil).cell 66 _ c66.out; go_simp; first | done | rfl) (by simp only [Zs]; rfl) ?_
 refine oCall1 rfl rfl rfl rfl (c := .agg (uc Wk).toArray) 57 #[.int .u32 (bb : Int)] (fun w => by go_simp) (fun w hw => (HW.out w).mono (by rintro e w' ⟨rfl, b⟩; exact ⟨rfl, b⟩)) (by simp only [Zs]; rfl) ?_
 refine oPure rfl rfl rfl rfl (c := .agg (ndc nd0).toArray) (fun w hw => exec_build (cs := ndc nd0) (ops := [(0, .tmp 24), (1, .tmp 25), (2, .const (.int .i64 (-1))), (4, .tmp 28)]) rfl hbt.out) (by simp only [Zs]; rfl) ?_
 refine oAlloc rfl rfl (fun ρ w => by unfold execOp; go_simp; rfl) ?_
 refine oStore rfl rfl (fun w hw => fill_take rfl rfl fun v _ => fill_end fun b hb h0 => ?_) ?_
 ·simp at hb
  subst hb
  exact bStoreRow h0 (zcN_len.trans l106.out.symm) _ _ _ rfl rfl rfl 106 l106.out (by kernel_rfl) one106.out
 refine oEnd fun w5 hw5 => fill_take rfl rfl fun v9 _ => fill_end fun hJ _ => ?_
 obtain ⟨g9, hb, hB, a9⟩ := hJ.at_ ⟨6, 9, 7, 141, ndc zeroNd, ndc nd0⟩ (List.mem_cons_self ..) rfl
 simp at hb
 subst hb
 replace a9 : Av w5 g9 141 (ndc nd0) := a9
 have b5 := hw5.nil
 have b05 := b03.trans (b5.mono b03.size)
 have aX5 := aX3.below b5
 have aH5 := aH3.below b5
 have T5 := T3.below b5
 have hg9 : w.heap.size ≤ g9 := Nat.le_trans b03.size hB
 have hg69 : g6 < g9 := Nat.lt_of_lt_of_le aX3.lt hB
 have hH9 : H < g9 := Nat.lt_of_lt_of_le aH3.lt hB
 clear hw5 hJ T3 b03 b5 aX3 aH3 hB
 simp only [List.set_cons_succ, List.set_cons_zero]
 have HL := Lib.hid (TLen _ ns w5 T5.ref)
 have hl0 : decide ((0 : Int) < (ns.length : Int)) = true := by simp; omega
 have hl0' : decide (0 < ns.length) = true := by simp; omega
 have HP := TFind (.pointer (some ⟨R, 0, none⟩)) ns h.prev hh.2.1 w5 T5.ref
 rw [hp] at HP
 replace HP := Lib.hid HP
 have p32 : Hid ((h.prev.map bv).length = 32) := Lib.hid (by rw [List.length_map]; exact hh.2.1)
 have rgP := Lib.hid (Av.hd_prev aH5)
 go_upto_region 7 with (go_at_call 58; refine (HL.out).mono ?_; rintro e w6 ⟨rfl, rfl⟩)
 go_upto_region 8 with (first
  | ((with_reducible refine wpList_loadMF 30 (h.prev.map bv) rgP.out ?_ _ Tryd.underlying30 ?_ ?_ ?_); rfl; rfl; (rw [p32.out]; kernel_rfl))
  | (go_at_call 16; refine (HP.out).mono ?_; rintro e w7 ⟨rfl, b7⟩))
 have b07 := b05.trans (b7.mono b05.size)
 have a97 := a9.below b7
 have aX7 := aX5.below b7
 have T7 := T5.below b7
 have h97 : g9 < w7.heap.size := Nat.lt_of_lt_of_le a9.lt b7.size
 clear b7 a9 aX5 T5 b05 aH5 rgP HL
 obtain ⟨A0, c0, hv0, Rv0⟩ := T7.rv
 have cs1 := Rv0.av.cell 1 _ rfl
 obtain ⟨b, off, rfl⟩ := Rv0.adr hn0
 obtain ⟨rgx, _⟩ := Rv0.nth j x hx.out
 replace rgx := Lib.hid rgx
 replace hv0 := Lib.hid hv0
 have j0 : (0 : Int) ≤ (j : Int) := by omega
 have j1 : (j : Int) < (ns.length : Int) := by omega
 clear Rv0
 go_upto_region 10 with fail
 go_upto_region 11 with (first
  | ((with_reducible refine wpList_loadMF 141 (ndc x) rgx.out ?_ _ Tryd.underlying141 ?_ ?_ ?_); rfl; rfl; (rw [x106.out]; kernel_rfl))
  | ((with_reducible refine wpList_storeF 141 ((Below.refl w7.heap.size w7).alloc (Nat.le_refl _) _) (heap_alloc_new _ _) (Nat.le_refl _) (ndc x) ?_ ?_ 106 x106.out ?_ ?_ ?_ ?_); rfl; rfl; kernel_rfl; exact zcN_len; exact xone.out; intro w8 a8 b8 k8 z8; clear k8; replace z8 := Lib.hid z8))
 clear cs1 rgx
 have b08 := b07.trans (b8.mono b07.size)
 have a98 := a97.below b8
 have aX8 := aX7.below b8
 have T8 := T7.below b8
 obtain ⟨g12, hg12⟩ : ∃ g, g = w7.heap.size := ⟨_, rfl⟩
 rw [← hg12] at a8 h97 ⊢
 have a12 := a8
 have hg129 : g12 ≠ g9 := by omega
 have hg96 : g9 ≠ g6 := by omega
 have hg9M := av_neM a98 T8.map
 have hg9R : g9 ≠ R := by rintro rfl; have := a98.symm.trans T8.av; injection Option.some.inj this with _ h2; revert h2; decide
 replace hg12 := Lib.hid hg12
 clear b8 a97 aX7 T7 b07 a8
 refine wp_region_relO [] [O9 g9 (ndc nd0) (j : Int) ((G : Int) + 1)] (by kernel_rfl) (by kernel_rfl) (by kernel_rfl) (by kernel_rfl) (by kernel_rfl) (by intro e he; simp only [List.mem_cons, List.not_mem_nil, or_false] at he; subst he; exact O9_con _ _ _ _) (by simp) (by intro e he; simp only [List.mem_cons, List.not_mem_nil, or_false] at he; subst he; exact a98) ?_
 refine oMove rfl rfl rfl rfl _ (.inl rfl) (by conv => lhs; whnf) (by simp only [Zs]; rfl) ?_
 refine oPure rfl rfl rfl rfl (c := .pointer (some ⟨g12, 101, none⟩)) (fun w _ => by go_simp; first | done | rfl) (by simp only [Zs]; rfl) ?_
 refine oPure rfl rfl rfl rfl (c := .int .i64 (G : Int)) (fun w hw => by have := (Fo.av hw a12 (by intro e he; simp only [List.mem_cons, List.not_mem_nil, or_false] at he; subst he; exact Ne.symm hg129)).cell 101 _ q101.out; go_simp; first | done | rfl) (by simp only [Zs]; rfl) ?_
 refine oPure rfl rfl rfl rfl (c := .int .i64 ((G : Int) + 1)) (fun w _ => by have := hGw.out; go_simp; first | done | rfl) (by simp only [Zs]; rfl) ?_
 refine oPure rfl rfl rfl rfl (c := .pointer (some ⟨g9, 100, none⟩)) (fun w _ => by go_simp; first | done | rfl) (by simp only [Zs]; rfl) ?_
 refine oOld rfl rfl rfl rfl (fun w hw => fill_end fun f hf h0 => ?_) ?_
 ·exact oldI h0 (by rw [O9_len, l106.out]; decide) _ .i64 _ _ _ rfl rfl rfl size_intT (O9_5 g9 (ndc nd0) (j : Int) ((G : Int) + 1) f hf)
 refine oPure rfl rfl rfl rfl (c := .pointer (some ⟨g9, 101, none⟩)) (fun w _ => by go_simp; first | done | rfl) (by simp only [Zs]; rfl) ?_
 refine oOld rfl rfl rfl rfl (fun w hw => fill_end fun f hf h0 => ?_) ?_
 ·exact oldI h0 (by rw [O9_len, l106.out]; decide) _ .i64 _ _ _ rfl rfl rfl size_intT (O9_7 g9 (ndc nd0) (j : Int) ((G : Int) + 1) f hf)
 refine oEnd fun w9 hw9 => fill_end fun _ hO => ?_
 have a99 : Av w9 g9 141 (((ndc nd0).set 100 (.int .i64 (j : Int))).set 101 (.int .i64 ((G : Int) + 1))) := hO (O9 g9 (ndc nd0) (j : Int) ((G : Int) + 1)) (List.mem_cons_self ..)
 rw [hlay.out] at a99
 have hOs : ∀ t, t ≠ g9 → ∀ e ∈ [O9 g9 (ndc nd0) (j : Int) ((G : Int) + 1)], e.b ≠ t := fun t ht e he => by
  simp only [List.mem_cons, List.not_mem_nil, or_false] at he
  subst he
  exact Ne.symm ht
 have a129 := Fo.av hw9 a12 (hOs _ hg129)
 have aX9 := Fo.av hw9 aX8 (hOs _ (Ne.symm hg96))
 have bl9 : Below w.heap.size w8 w9 := hw9.low b08.size (by intro e he; simp only [List.mem_cons, List.not_mem_nil, or_false] at he; subst he; exact hg9)
 have b09 := b08.trans bl9
 have fr9 : Fr (fun k => k = g9) w8 w9 := (Fr.ofDrew hw9).weaken (fun k _ ⟨e, he, hb⟩ => by simp only [List.mem_cons, List.not_mem_nil, or_false] at he; subst he; exact hb.symm)
 have T9 : TAt w9 base R most v Mp ns := T8.fr fr9 hg9R (fun e => by have := hvl g9 e; omega) hg9M
 clear hw9 hO hOs a98 aX8 b08 T8 a12 bl9 fr9
 have rw12 := Lib.hid (rg_work xok a129.range0)
 have rw9 : w9.rangeAt g9 102 (uc Wk) := by
  have := rg_work nok1 a99.range0
  rw [hw1.out] at this
  simpa using this
 replace rw9 := Lib.hid rw9
 rw [Nat.zero_add] at rw12
 clear hG0 hGn j0 j1 hl0 hl0'
 go_upto_region 13 with (first
  | ((with_reducible refine wpList_loadMF 139 (uc x.wrk) rw12.out ?_ _ Tryd.underlying139 ?_ ?_ ?_); rfl; rfl; kernel_rfl)
  | ((with_reducible refine wpList_loadMF 139 (uc Wk) rw9.out ?_ _ Tryd.underlying139 ?_ ?_ ?_); rfl; rfl; kernel_rfl)
  | (go_at_call 59; refine (HS2.out w9).mono ?_; rintro e w10 ⟨rfl, b10⟩; have a9A := a99.below b10; rw [hsp.out] at a9A; have hth := Lib.hid (a9A.there 102 4 (by rw [List.length_append, List.length_append, l1.out]; exact Nat.le_refl _)))
  | ((with_reducible refine wpList_storeMT 139 (uc Sm) hth.out ?_ ?_ ?_ ?_ ?_); rfl; rfl; kernel_rfl; rfl))
 have a9q := Av.setCells (uc Sm) _ (uc Wk) [] 102 w10 a9A l1.out rfl
 rw [hset.out] at a9q
 have b010 := b09.trans (b10.mono b09.size)
 have T10 := T9.below b10
 have aX10 := aX9.below b10
 have bq0 : Below w.heap.size w (w10.setCells g9 102 (uc Sm)) := below_setCells (uc Sm) w10 g9 102 b010 hg9
 have frq : Fr (fun k => k = g9) w10 (w10.setCells g9 102 (uc Sm)) := by
  have q := below_setCells (B := 0) (uc Sm) w10 g9 102 (Below.refl 0 w10) (Nat.zero_le _)
  exact ⟨q.os, q.tape, q.output, q.size, fun k _ hk => heap_setCells (uc Sm) w10 g9 102 k hk⟩
 have Tq0 := T10.fr frq hg9R (fun e => by have := hvl g9 e; omega) hg9M
 have aXq0 := frq.av aX10 (fun e => hg96 e.symm)
 obtain ⟨wq, hwq⟩ : ∃ wq, wq = w10.setCells g9 102 (uc Sm) := ⟨_, rfl⟩
 rw [← hwq] at a9q bq0 Tq0 aXq0 ⊢
 have Tq := Tq0
 have aN := a9q
 have aXq := aXq0
 have bq := bq0
 clear a9q bq0 Tq0 aXq0 hwq frq aX10 T10 b010 a9A hth b10 rw12 rw9 a129 aX9 a99 T9 b09 hg9M
 obtain ⟨A, c, hv, Rv⟩ := Tq.rv
 obtain ⟨N, hN⟩ : ∃ N, N = ns.length := ⟨_, rfl⟩
 have Tq0 := Tq
 rw [hv] at Tq
 have avq := Tq.av
 have oq := Tq.own
 rw [← hN] at oq avq
 have mq := Tq.map
 have hMR := av_neM avq mq
 have hlim : most ≤ 1048576 := Tq.lim
 have hsml : N ≤ most := by rw [hN]; exact Tq.small
 have hfull : most ≤ N := by rw [hN]; exact hfull
 have tF : decide ((most : Int) ≤ (N : Int)) = true := by simp; omega
 have tF2 : decide (most ≤ N) = true := by simp; omega
 replace hv := Lib.hid hv
 replace hN := Lib.hid hN
 clear Tq Rv mq oq
 refine wp_region_rel [] Ext (by kernel_rfl) (by kernel_rfl) (by kernel_rfl) Ext.refl Ext.trans (by intro p hp; cases hp) ?_
 refine ZM ?_
 refine ZP (c := .bool false) (fun w _ => by go_simp; first | done | rfl) ?_
 refine ZM ?_
 refine ZM ?_
 refine ZP (c := .pointer (some ⟨R, 0, none⟩)) (fun w _ => by go_simp; first | done | rfl) ?_
 refine ZP (c := .pointer (some ⟨R, 1, none⟩)) (fun w _ => by go_simp; first | done | rfl) ?_
 refine ZP (c := .slice A N c) (fun w hw => by have := (avq.below hw.drew).cell 1 _ rfl; go_simp; first | done | rfl) ?_
 refine ZP (c := .int .i64 (N : Int)) (fun w _ => by go_simp; first | done | rfl) ?_
 refine ZM ?_
 refine ZP (c := .pointer (some ⟨R, 0, none⟩)) (fun w _ => by go_simp; first | done | rfl) ?_
 refine ZP (c := .pointer (some ⟨R, 0, none⟩)) (fun w _ => by go_simp; first | done | rfl) ?_
 refine ZP (c := .int .i64 (most : Int)) (fun w hw => by have := (avq.below hw.drew).cell 0 _ rfl; go_simp; first | done | rfl) ?_
 refine ZP (c := .bool true) (fun w _ => by have := tF; have := tF2; go_simp; first | done | rfl) ?_
 refine ZK ?_
 refine relEnd fun w9 hw9 => fill_end ?_
 have b9 := bq.trans (hw9.drew.mono bq.size)
 have T9 := Lib.hid (Tq0.below hw9.drew)
 clear avq Tq0 aN aXq
 go_wp2
 go_ret2
 exact ⟨rfl, ⟨v, T9.out⟩, b9.mono hbase, KeepT.ofBelow b9⟩
set_option maxRecDepth 100000 in
set_option maxHeartbeats 8000000 in
theorem TAdd_child (base R most : Nat) (v : Value) (Mp : Nat) (ns : List Nd) (h : Hd) (hh : h.ok) (w : World) (ht : Tabs w) (T : TAt w base R most v Mp ns) (hbase : base ≤ w.heap.size) (hk : tFind ns (hdId h) = none) (hn0 : 0 < ns.length) (j : Nat) (x : Nd) (hp : tFind ns h.prev = some j) (hx : ns[j]? = some x) (hfull : ¬ most ≤ ns.length) :
  Calls Tryd.prog 33 #[.pointer (some ⟨R, 0, none⟩), .agg (hdc h).toArray] w fun e w' => e = .returned (.tuple #[.int .i64 (ns.length : Int), .int .i64 0]) ∧ (∃ v', TAt w' base R most v' Mp (ns ++ [⟨hdId h, h, (j : Int), x.hgt + 1, (x.wrk + mWork h.bits) % 115792089237316195423570985008687907853269984665640564039457584007913129639936⟩])) ∧ Below base w w' ∧ KeepT w w' := by
 have hnew0 : mNode ns h = some ⟨hdId h, h, (j : Int), x.hgt + 1, (x.wrk + mWork h.bits) % 115792089237316195423570985008687907853269984665640564039457584007913129639936⟩ := by rw [mNode, if_neg (by omega), hp]; simp only [hx]
 have hRb := T.hR
 have hMb := T.hM
 obtain ⟨nd, hnd⟩ : ∃ nd : Nd, nd = ⟨hdId h, h, (j : Int), x.hgt + 1, (x.wrk + mWork h.bits) % 115792089237316195423570985008687907853269984665640564039457584007913129639936⟩ := ⟨_, rfl⟩
 rw [← hnd] at hnew0 ⊢
 have hnew := Lib.hid hnew0
 clear hnew0
 replace hnd := Lib.hid hnd
 have hjl : j < ns.length := tFind_lt hp
 have hvl : ∀ k, v.ownBlock = some k → k < w.heap.size := fun k hk => (World.ownsRow.lt T.own k hk).2
 have xok := T.ok.nds x (List.mem_of_getElem? hx)
 have x106 := Lib.hid (ndc_length xok)
 have xone := Lib.hid (List.all_eq_true.2 (ndc_one x))
 obtain ⟨_, q101⟩ := ndc_at xok
 obtain ⟨G, hG⟩ : ∃ G, G = x.hgt := ⟨_, rfl⟩
 rw [← hG] at q101
 have hG0 : (G : Int) < 1048576 := by
  have := T.ok.hgt_le hjl
  rw [tHgt_at hx] at this
  have := T.small
  have := T.lim
  omega
 have hGn : (0 : Int) ≤ (G : Int) := by omega
 have hGw : Hid (IntKind.i64.wrap ((G : Int) + 1) = (G : Int) + 1) := Lib.hid (by rw [IntKind.wrap_i64]; omega)
 have HS := fun (y : Nat) (hy : y < 115792089237316195423570985008687907853269984665640564039457584007913129639936) => UAdd x.wrk y xok.wrk hy
 replace q101 := Lib.hid q101
 replace hG := Lib.hid hG
 replace HS := Lib.hid HS
 replace hx := Lib.hid hx
 obtain ⟨W, hW⟩ : ∃ W, W = w.alloc (.cells (hdc h).toArray 32) := ⟨_, rfl⟩
 obtain ⟨H, hH⟩ : ∃ H, H = w.heap.size := ⟨_, rfl⟩
 have bW : Below w.heap.size w W := by rw [hW]; exact (Below.refl _ _).alloc (Nat.le_refl _) _
 have aH : Av W H 32 (hdc h) := by rw [hW, hH]; exact heap_alloc_new _ _
 have h68 := Lib.hid (hdc_length hh)
 have HI := HdId h hh W (ht.below bW)
 have hX := hdId_length h
 obtain ⟨X, hXe⟩ : ∃ X, X = hdId h := ⟨_, rfl⟩
 rw [← hXe] at HI hX hk
 have l32 : Hid ((X.map bv).length = 32) := Lib.hid (by rw [List.length_map]; exact hX)
 have one32 := Lib.hid (List.all_eq_true.2 (bv_one X))
 have HF := fun w' (q : TRef w' (.pointer (some ⟨R, 0, none⟩)) ns) => TFind _ ns X hX w' q
 rw [hk] at HF
 have z32 := Lib.hid (show ((#[.int .u8 0, .int .u8 0, .int .u8 0, .int .u8 0, .int .u8 0, .int .u8 0, .int .u8 0, .int .u8 0, .int .u8 0, .int .u8 0, .int .u8 0, .int .u8 0, .int .u8 0, .int .u8 0, .int .u8 0, .int .u8 0, .int .u8 0, .int .u8 0, .int .u8 0, .int .u8 0, .int .u8 0, .int .u8 0, .int .u8 0, .int .u8 0, .int .u8 0, .int .u8 0, .int .u8 0, .int .u8 0, .int .u8 0, .int .u8 0, .int .u8 0, .int .u8 0] : Array Value)).size = 32 from rfl)
 replace hXe := Lib.hid hXe
 replace HI := Lib.hid HI
 replace HF := Lib.hid HF
 replace hk := Lib.hid hk
 replace hX := Lib.hid hX
 replace hW := Lib.hid hW
 replace hH := Lib.hid hH
 have c66 := Lib.hid (hdc_at hh).2.2.1
 obtain ⟨bb, hbb⟩ : ∃ b, b = h.bits := ⟨_, rfl⟩
 rw [← hbb] at c66
 have HW := TWork bb (by rw [hbb]; exact hh.2.2.2.2.1)
 obtain ⟨Wk, hWk⟩ : ∃ k, k = mWork bb := ⟨_, rfl⟩
 rw [← hWk] at HW
 have hWl : Wk < 115792089237316195423570985008687907853269984665640564039457584007913129639936 := by rw [hWk]; exact mWork_lt bb
 obtain ⟨nd0, hnd0⟩ : ∃ n : Nd, n = ⟨X, h, -1, 0, Wk⟩ := ⟨_, rfl⟩
 have nok0 : NdOk nd0 := by rw [hnd0]; exact ⟨hX.out, hh, hWl⟩
 have hbt := node_built X h Wk hX.out hh
 rw [← hnd0] at hbt
 have l106 := Lib.hid (ndc_length nok0)
 have one106 := Lib.hid (List.all_eq_true.2 (ndc_one nd0))
 replace hbt := Lib.hid hbt
 replace HW := Lib.hid HW
 replace hbb := Lib.hid hbb
 replace hWk := Lib.hid hWk
 replace hnd0 := Lib.hid hnd0
 obtain ⟨nd1, hnd1⟩ : ∃ n : Nd, n = ⟨X, h, (j : Int), G + 1, Wk⟩ := ⟨_, rfl⟩
 have nok1 : NdOk nd1 := by rw [hnd1]; exact ⟨hX.out, hh, hWl⟩
 have hlay : ((ndc nd0).set 100 (.int .i64 (j : Int))).set 101 (.int .i64 ((G : Int) + 1)) = ndc nd1 := by
  rw [ndc_par nd0 nok0, show ((G : Int) + 1) = ((G + 1 : Nat) : Int) by omega]
  refine (ndc_hgt { nd0 with par := (j : Int) } ⟨nok0.id, nok0.head, nok0.wrk⟩ (G + 1)).trans ?_
  rw [hnd1, hnd0.out]
 obtain ⟨Sm, hSm⟩ : ∃ s, s = (x.wrk + Wk) % 115792089237316195423570985008687907853269984665640564039457584007913129639936 := ⟨_, rfl⟩
 have HS2 := HS.out Wk hWl
 rw [← hSm] at HS2
 obtain ⟨ob, hob⟩ : ∃ o, o = decide (115792089237316195423570985008687907853269984665640564039457584007913129639936 ≤ x.wrk + Wk) := ⟨_, rfl⟩
 rw [← hob] at HS2
 replace hob := Lib.hid hob
 have hnn : nd = { nd1 with wrk := Sm } := by rw [hnd1, hnd.out, hXe.out, hSm, hWk.out, hbb.out, hG.out]
 have nok : NdOk nd := by rw [hnn]; exact ⟨nok1.id, nok1.head, by rw [hSm]; exact Nat.mod_lt _ (by omega)⟩
 have nid : Hid (nd.id = X) := Lib.hid (by rw [hnd.out, hXe.out])
 have l106n : Hid ((ndc nd).length = 106) := Lib.hid (ndc_length nok)
 have one106n := Lib.hid (ndc_one nd)
 have l1 : (nd1.id.map bv ++ (hdc nd1.head ++ ([.int .i64 nd1.par, .int .i64 (nd1.hgt : Int)] : List Value))).length = 102 := by simp [nok1.id, hdc_length nok1.head]
 have hset : (nd1.id.map bv ++ (hdc nd1.head ++ ([.int .i64 nd1.par, .int .i64 (nd1.hgt : Int)] : List Value))) ++ uc Sm ++ [] = ndc nd := by rw [hnn, ndc_split]
 have hw1 : nd1.wrk = Wk := by rw [hnd1]
 have hsp := ndc_split nd1
 rw [hw1] at hsp
 replace HS2 := Lib.hid HS2
 replace hlay := Lib.hid hlay
 replace hSm := Lib.hid hSm
 replace hnn := Lib.hid hnn
 replace hnd1 := Lib.hid hnd1
 replace l1 := Lib.hid l1
 replace hset := Lib.hid hset
 replace hw1 := Lib.hid hw1
 replace hsp := Lib.hid hsp
 replace hWl := Lib.hid hWl
 go_enter Tryd.func33, Tryd.ntmps33
 go_upto_region 1 with fail
 rw [← hW.out, ← hH.out]
 go_upto_region 2 with (first
  | ((with_reducible refine wpList_loadF 32 aH ?_ _ 68 h68.out Tryd.underlying32 ?_ ?_ ?_); rfl; rfl; kernel_rfl)
  | (go_at_call 17; refine (HI.out).mono ?_; rintro e w1 ⟨rfl, b1⟩)
  | ((with_reducible refine wpList_storeF 30 ((Below.refl w1.heap.size w1).alloc (Nat.le_refl _) _) (heap_alloc_new _ _) (Nat.le_refl _) (X.map bv) ?_ ?_ 32 l32.out ?_ ?_ ?_ ?_); rfl; rfl; kernel_rfl; exact z32.out; exact one32.out; intro w2 a2 b2 k2 z2; clear k2; replace z2 := Lib.hid z2))
 have b02 := bW.trans ((b1.mono bW.size).trans (b2.mono (Nat.le_trans bW.size b1.size)))
 have aH2 := (aH.below b1).below b2
 have T2 := T.below b02
 clear b1 b2 aH bW
 obtain ⟨g6, hg6⟩ : ∃ g, g = w1.heap.size := ⟨_, rfl⟩
 rw [← hg6] at a2 ⊢
 replace hg6 := Lib.hid hg6
 go_upto_region 3 with (first
  | ((with_reducible refine wpList_loadF 30 a2 ?_ _ 32 l32.out Tryd.underlying30 ?_ ?_ ?_); rfl; rfl; kernel_rfl)
  | (go_at_call 16; refine (HF.out w2 T2.ref).mono ?_; rintro e w3 ⟨rfl, b3⟩))
 have b03 := b02.trans (b3.mono b02.size)
 have aH3 := aH2.below b3
 have aX3 := a2.below b3
 have T3 := T2.below b3
 clear b3 a2 aH2 T2 b02
 go_upto_region 5 with fail
 refine wp_region_relO [⟨6, 9, 7, 141, ndc zeroNd, ndc nd0⟩] [] (by kernel_rfl) (by kernel_rfl) (by kernel_rfl) (by kernel_rfl) (by kernel_rfl) (by intro e he; cases he) (by simp) (by intro e he; cases he) ?_
 refine oPure rfl rfl rfl rfl (c := .agg (X.map bv).toArray) (fun w hw => exec_loadAv (aX3.below hw.nil) _ _ rfl rfl _ 32 l32.out Tryd.underlying30 rfl (by kernel_rfl)) (by simp only [Zs]; rfl) ?_
 refine oPure rfl rfl rfl rfl (c := .agg (hdc h).toArray) (fun w hw => exec_loadAv (aH3.below hw.nil) _ _ rfl rfl _ 68 h68.out Tryd.underlying32 rfl (by kernel_rfl)) (by simp only [Zs]; rfl) ?_
 refine oPure rfl rfl rfl rfl (c := .pointer (some ⟨H, 66, none⟩)) (fun w _ => by go_simp; first | done | rfl) (by simp only [Zs]; rfl) ?_
 refine oPure rfl rfl rfl rfl (c := .int .u32 (bb : Int)) (fun w hw => by have := (aH3.below hw.nil).cell 66 _ c66.out; go_simp; first | done | rfl) (by simp only [Zs]; rfl) ?_
 refine oCall1 rfl rfl rfl rfl (c := .agg (uc Wk).toArray) 57 #[.int .u32 (bb : Int)] (fun w => by go_simp) (fun w hw => (HW.out w).mono (by rintro e w' ⟨rfl, b⟩; exact ⟨rfl, b⟩)) (by simp only [Zs]; rfl) ?_
 refine oPure rfl rfl rfl rfl (c := .agg (ndc nd0).toArray) (fun w hw => exec_build (cs := ndc nd0) (ops := [(0, .tmp 24), (1, .tmp 25), (2, .const (.int .i64 (-1))), (4, .tmp 28)]) rfl hbt.out) (by simp only [Zs]; rfl) ?_
 refine oAlloc rfl rfl (fun ρ w => by unfold execOp; go_simp; rfl) ?_
 refine oStore rfl rfl (fun w hw => fill_take rfl rfl fun v _ => fill_end fun b hb h0 => ?_) ?_
 ·simp at hb
  subst hb
  exact bStoreRow h0 (zcN_len.trans l106.out.symm) _ _ _ rfl rfl rfl 106 l106.out (by kernel_rfl) one106.out
 refine oEnd fun w5 hw5 => fill_take rfl rfl fun v9 _ => fill_end fun hJ _ => ?_
 obtain ⟨g9, hb, hB, a9⟩ := hJ.at_ ⟨6, 9, 7, 141, ndc zeroNd, ndc nd0⟩ (List.mem_cons_self ..) rfl
 simp at hb
 subst hb
 replace a9 : Av w5 g9 141 (ndc nd0) := a9
 have b5 := hw5.nil
 have b05 := b03.trans (b5.mono b03.size)
 have aX5 := aX3.below b5
 have aH5 := aH3.below b5
 have T5 := T3.below b5
 have hg9 : w.heap.size ≤ g9 := Nat.le_trans b03.size hB
 have hg69 : g6 < g9 := Nat.lt_of_lt_of_le aX3.lt hB
 have hH9 : H < g9 := Nat.lt_of_lt_of_le aH3.lt hB
 clear hw5 hJ T3 b03 b5 aX3 aH3 hB
 simp only [List.set_cons_succ, List.set_cons_zero]
 have HL := Lib.hid (TLen _ ns w5 T5.ref)
 have hl0 : decide ((0 : Int) < (ns.length : Int)) = true := by simp; omega
 have hl0' : decide (0 < ns.length) = true := by simp; omega
 have HP := TFind (.pointer (some ⟨R, 0, none⟩)) ns h.prev hh.2.1 w5 T5.ref
 rw [hp] at HP
 replace HP := Lib.hid HP
 have p32 : Hid ((h.prev.map bv).length = 32) := Lib.hid (by rw [List.length_map]; exact hh.2.1)
 have rgP := Lib.hid (Av.hd_prev aH5)
 go_upto_region 7 with (go_at_call 58; refine (HL.out).mono ?_; rintro e w6 ⟨rfl, rfl⟩)
 go_upto_region 8 with (first
  | ((with_reducible refine wpList_loadMF 30 (h.prev.map bv) rgP.out ?_ _ Tryd.underlying30 ?_ ?_ ?_); rfl; rfl; (rw [p32.out]; kernel_rfl))
  | (go_at_call 16; refine (HP.out).mono ?_; rintro e w7 ⟨rfl, b7⟩))
 have b07 := b05.trans (b7.mono b05.size)
 have a97 := a9.below b7
 have aX7 := aX5.below b7
 have T7 := T5.below b7
 have h97 : g9 < w7.heap.size := Nat.lt_of_lt_of_le a9.lt b7.size
 clear b7 a9 aX5 T5 b05 aH5 rgP HL
 obtain ⟨A0, c0, hv0, Rv0⟩ := T7.rv
 have cs1 := Rv0.av.cell 1 _ rfl
 obtain ⟨b, off, rfl⟩ := Rv0.adr hn0
 obtain ⟨rgx, _⟩ := Rv0.nth j x hx.out
 replace rgx := Lib.hid rgx
 replace hv0 := Lib.hid hv0
 have j0 : (0 : Int) ≤ (j : Int) := by omega
 have j1 : (j : Int) < (ns.length : Int) := by omega
 clear Rv0
 go_upto_region 10 with fail
 go_upto_region 11 with (first
  | ((with_reducible refine wpList_loadMF 141 (ndc x) rgx.out ?_ _ Tryd.underlying141 ?_ ?_ ?_); rfl; rfl; (rw [x106.out]; kernel_rfl))
  | ((with_reducible refine wpList_storeF 141 ((Below.refl w7.heap.size w7).alloc (Nat.le_refl _) _) (heap_alloc_new _ _) (Nat.le_refl _) (ndc x) ?_ ?_ 106 x106.out ?_ ?_ ?_ ?_); rfl; rfl; kernel_rfl; exact zcN_len; exact xone.out; intro w8 a8 b8 k8 z8; clear k8; replace z8 := Lib.hid z8))
 clear cs1 rgx
 have b08 := b07.trans (b8.mono b07.size)
 have a98 := a97.below b8
 have aX8 := aX7.below b8
 have T8 := T7.below b8
 obtain ⟨g12, hg12⟩ : ∃ g, g = w7.heap.size := ⟨_, rfl⟩
 rw [← hg12] at a8 h97 ⊢
 have a12 := a8
 have hg129 : g12 ≠ g9 := by omega
 have hg96 : g9 ≠ g6 := by omega
 have hg9M := av_neM a98 T8.map
 have hg9R : g9 ≠ R := by rintro rfl; have := a98.symm.trans T8.av; injection Option.some.inj this with _ h2; revert h2; decide
 replace hg12 := Lib.hid hg12
 clear b8 a97 aX7 T7 b07 a8
 refine wp_region_relO [] [O9 g9 (ndc nd0) (j : Int) ((G : Int) + 1)] (by kernel_rfl) (by kernel_rfl) (by kernel_rfl) (by kernel_rfl) (by kernel_rfl) (by intro e he; simp only [List.mem_cons, List.not_mem_nil, or_false] at he; subst he; exact O9_con _ _ _ _) (by simp) (by intro e he; simp only [List.mem_cons, List.not_mem_nil, or_false] at he; subst he; exact a98) ?_
 refine oMove rfl rfl rfl rfl _ (.inl rfl) (by conv => lhs; whnf) (by simp only [Zs]; rfl) ?_
 refine oPure rfl rfl rfl rfl (c := .pointer (some ⟨g12, 101, none⟩)) (fun w _ => by go_simp; first | done | rfl) (by simp only [Zs]; rfl) ?_
 refine oPure rfl rfl rfl rfl (c := .int .i64 (G : Int)) (fun w hw => by have := (Fo.av hw a12 (by intro e he; simp only [List.mem_cons, List.not_mem_nil, or_false] at he; subst he; exact Ne.symm hg129)).cell 101 _ q101.out; go_simp; first | done | rfl) (by simp only [Zs]; rfl) ?_
 refine oPure rfl rfl rfl rfl (c := .int .i64 ((G : Int) + 1)) (fun w _ => by have := hGw.out; go_simp; first | done | rfl) (by simp only [Zs]; rfl) ?_
 refine oPure rfl rfl rfl rfl (c := .pointer (some ⟨g9, 100, none⟩)) (fun w _ => by go_simp; first | done | rfl) (by simp only [Zs]; rfl) ?_
 refine oOld rfl rfl rfl rfl (fun w hw => fill_end fun f hf h0 => ?_) ?_
 ·exact oldI h0 (by rw [O9_len, l106.out]; decide) _ .i64 _ _ _ rfl rfl rfl size_intT (O9_5 g9 (ndc nd0) (j : Int) ((G : Int) + 1) f hf)
 refine oPure rfl rfl rfl rfl (c := .pointer (some ⟨g9, 101, none⟩)) (fun w _ => by go_simp; first | done | rfl) (by simp only [Zs]; rfl) ?_
 refine oOld rfl rfl rfl rfl (fun w hw => fill_end fun f hf h0 => ?_) ?_
 ·exact oldI h0 (by rw [O9_len, l106.out]; decide) _ .i64 _ _ _ rfl rfl rfl size_intT (O9_7 g9 (ndc nd0) (j : Int) ((G : Int) + 1) f hf)
 refine oEnd fun w9 hw9 => fill_end fun _ hO => ?_
 have a99 : Av w9 g9 141 (((ndc nd0).set 100 (.int .i64 (j : Int))).set 101 (.int .i64 ((G : Int) + 1))) := hO (O9 g9 (ndc nd0) (j : Int) ((G : Int) + 1)) (List.mem_cons_self ..)
 rw [hlay.out] at a99
 have hOs : ∀ t, t ≠ g9 → ∀ e ∈ [O9 g9 (ndc nd0) (j : Int) ((G : Int) + 1)], e.b ≠ t := fun t ht e he => by
  simp only [List.mem_cons, List.not_mem_nil, or_false] at he
  subst he
  exact Ne.symm ht
 have a129 := Fo.av hw9 a12 (hOs _ hg129)
 have aX9 := Fo.av hw9 aX8 (hOs _ (Ne.symm hg96))
 have bl9 : Below w.heap.size w8 w9 := hw9.low b08.size (by intro e he; simp only [List.mem_cons, List.not_mem_nil, or_false] at he; subst he; exact hg9)
 have b09 := b08.trans bl9
 have fr9 : Fr (fun k => k = g9) w8 w9 := (Fr.ofDrew hw9).weaken (fun k _ ⟨e, he, hb⟩ => by simp only [List.mem_cons, List.not_mem_nil, or_false] at he; subst he; exact hb.symm)
 have T9 : TAt w9 base R most v Mp ns := T8.fr fr9 hg9R (fun e => by have := hvl g9 e; omega) hg9M
 clear hw9 hO hOs a98 aX8 b08 T8 a12 bl9 fr9
 have rw12 := Lib.hid (rg_work xok a129.range0)
 have rw9 : w9.rangeAt g9 102 (uc Wk) := by
  have := rg_work nok1 a99.range0
  rw [hw1.out] at this
  simpa using this
 replace rw9 := Lib.hid rw9
 rw [Nat.zero_add] at rw12
 clear hG0 hGn j0 j1 hl0 hl0'
 go_upto_region 13 with (first
  | ((with_reducible refine wpList_loadMF 139 (uc x.wrk) rw12.out ?_ _ Tryd.underlying139 ?_ ?_ ?_); rfl; rfl; kernel_rfl)
  | ((with_reducible refine wpList_loadMF 139 (uc Wk) rw9.out ?_ _ Tryd.underlying139 ?_ ?_ ?_); rfl; rfl; kernel_rfl)
  | (go_at_call 59; refine (HS2.out w9).mono ?_; rintro e w10 ⟨rfl, b10⟩; have a9A := a99.below b10; rw [hsp.out] at a9A; have hth := Lib.hid (a9A.there 102 4 (by rw [List.length_append, List.length_append, l1.out]; exact Nat.le_refl _)))
  | ((with_reducible refine wpList_storeMT 139 (uc Sm) hth.out ?_ ?_ ?_ ?_ ?_); rfl; rfl; kernel_rfl; rfl))
 have a9q := Av.setCells (uc Sm) _ (uc Wk) [] 102 w10 a9A l1.out rfl
 rw [hset.out] at a9q
 have b010 := b09.trans (b10.mono b09.size)
 have T10 := T9.below b10
 have aX10 := aX9.below b10
 have bq0 : Below w.heap.size w (w10.setCells g9 102 (uc Sm)) := below_setCells (uc Sm) w10 g9 102 b010 hg9
 have frq : Fr (fun k => k = g9) w10 (w10.setCells g9 102 (uc Sm)) := by
  have q := below_setCells (B := 0) (uc Sm) w10 g9 102 (Below.refl 0 w10) (Nat.zero_le _)
  exact ⟨q.os, q.tape, q.output, q.size, fun k _ hk => heap_setCells (uc Sm) w10 g9 102 k hk⟩
 have Tq0 := T10.fr frq hg9R (fun e => by have := hvl g9 e; omega) hg9M
 have aXq0 := frq.av aX10 (fun e => hg96 e.symm)
 obtain ⟨wq, hwq⟩ : ∃ wq, wq = w10.setCells g9 102 (uc Sm) := ⟨_, rfl⟩
 rw [← hwq] at a9q bq0 Tq0 aXq0 ⊢
 have Tq := Tq0
 have aN := a9q
 have aXq := aXq0
 have bq := bq0
 clear a9q bq0 Tq0 aXq0 hwq frq aX10 T10 b010 a9A hth b10 rw12 rw9 a129 aX9 a99 T9 b09 hg9M
 obtain ⟨A, c, hv, Rv⟩ := Tq.rv
 obtain ⟨N, hN⟩ : ∃ N, N = ns.length := ⟨_, rfl⟩
 have Tq0 := Tq
 rw [hv] at Tq
 have avq := Tq.av
 have oq := Tq.own
 rw [← hN] at oq avq
 have mq := Tq.map
 have hMR := av_neM avq mq
 have hlim : most ≤ 1048576 := Tq.lim
 have hsml : N ≤ most := by rw [hN]; exact Tq.small
 have hfull : ¬ most ≤ N := by rw [hN]; exact hfull
 have tF : decide ((most : Int) ≤ (N : Int)) = false := by simp; omega
 have tF2 : decide (most ≤ N) = false := by simp; omega
 have okq : TOk (ns ++ [nd]) := Tq.ok.snoc hh hnew.out (by rw [← hXe.out]; exact hk.out)
 have tfn : tFind ns nd.id = none := by rw [nid.out]; exact hk.out
 replace okq := Lib.hid okq
 replace tfn := Lib.hid tfn
 replace hv := Lib.hid hv
 replace hN := Lib.hid hN
 clear Tq Rv Tq0
 refine wp_region_rel [] Ext (by kernel_rfl) (by kernel_rfl) (by kernel_rfl) Ext.refl Ext.trans (by intro p hp; cases hp) ?_
 refine ZM ?_
 refine ZP (c := .bool false) (fun w _ => by go_simp; first | done | rfl) ?_
 refine ZM ?_
 refine ZM ?_
 refine ZP (c := .pointer (some ⟨R, 0, none⟩)) (fun w _ => by go_simp; first | done | rfl) ?_
 refine ZP (c := .pointer (some ⟨R, 1, none⟩)) (fun w _ => by go_simp; first | done | rfl) ?_
 refine ZP (c := .slice A N c) (fun w hw => by have := (avq.below hw.drew).cell 1 _ rfl; go_simp; first | done | rfl) ?_
 refine ZP (c := .int .i64 (N : Int)) (fun w _ => by go_simp; first | done | rfl) ?_
 refine ZM ?_
 refine ZP (c := .pointer (some ⟨R, 0, none⟩)) (fun w _ => by go_simp; first | done | rfl) ?_
 refine ZP (c := .pointer (some ⟨R, 0, none⟩)) (fun w _ => by go_simp; first | done | rfl) ?_
 refine ZP (c := .int .i64 (most : Int)) (fun w hw => by have := (avq.below hw.drew).cell 0 _ rfl; go_simp; first | done | rfl) ?_
 refine ZP (c := .bool false) (fun w _ => by have := tF; have := tF2; go_simp; first | done | rfl) ?_
 refine ZK ?_
 refine relEnd fun w9 hw9 => fill_end ?_
 have e9 := hw9.drew
 have bq := bq.trans (e9.mono bq.size)
 have avq := avq.below e9
 have oq := own_below oq e9
 have mq := mq.below e9
 have aN := aN.below e9
 have aXq := aXq.below e9
 clear hw9 e9
 have c1 := avq.cell 1 _ rfl
 go_upto_region 16 with fail
 clear c1
 refine wp_region_relM 7 7 [(6, fun v w' => ∃ g, v = .slice (some ⟨g, 0, none⟩) 1 1 ∧ w9.heap.size ≤ g ∧ Av w' g 141 (ndc nd))] Ext (by kernel_rfl) (by simp only [waitOn, List.push_toArray, List.cons_append, List.nil_append]; rfl) rfl (by decide) (by kernel_rfl) (by kernel_rfl) (fun _ _ _ h => h) (by kernel_rfl) (by kernel_rfl) (by kernel_rfl) (by kernel_rfl) Ext.refl Ext.trans (by
   intro p hp v w w' hR
   simp only [List.mem_singleton] at hp
   subst hp
   rintro ⟨g, e, h1, h2⟩
   exact ⟨g, e, h1, h2.below hR⟩) ?_
 refine ZM ?_
 refine ZM ?_
 refine ZP (c := .pointer (some ⟨R, 0, none⟩)) (fun w _ => by go_simp; first | done | rfl) ?_
 refine ZP (c := .pointer (some ⟨R, 1, none⟩)) (fun w _ => by go_simp; first | done | rfl) ?_
 refine ZP (c := .slice A N c) (fun w hw => by have := (avq.below hw.drew).cell 1 _ rfl; go_simp; first | done | rfl) ?_
 refine ZP (c := .agg (ndc nd).toArray) (fun w hw => exec_loadAv (aN.below hw.drew) _ _ rfl rfl _ 106 l106n.out Tryd.underlying141 rfl (by kernel_rfl)) ?_
 refine relWord _ rfl (fun w hw => fill_none rfl (relOp_yes rfl ?_)) ?_
 ·rw [exec_build1 Tryd.underlying118 infoNt zeroNt (by decide) (by decide) _ (ndc nd) l106n.out _ rfl rfl]
  exact ⟨(Below.refl _ _).alloc (Nat.le_refl _) _, _, rfl, hw.drew.size, heap_alloc_new _ _⟩
 refine relEnd fun w6 hw6 => fill_take rfl rfl fun v hv => fill_end ?_
 obtain ⟨q, rfl, hq, aq⟩ := hv
 simp only [List.set_cons_succ, List.set_cons_zero, List.drop_succ_cons, List.drop_zero]
 have e6 := hw6.drew
 have bq := bq.trans (e6.mono bq.size)
 have av6 := avq.below e6
 have o6 := own_below oq e6
 have m6 := mq.below e6
 have aX6 := aXq.below e6
 have hbs : base ≤ w6.heap.size := Nat.le_trans hbase bq.size
 have hb6 := bq.mono hbase
 have K6 := KeepT.ofBelow bq
 have hle : (N + 1) * 160 ≤ 140737488355328 := by omega
 clear hw6 e6 aXq avq oq mq aN hq bq
 go_upto_region 17 with (at_builtin; refine wpList_appE Tryd.underlying118 infoNt zeroNt (by decide) o6 hbs (ndc nd) 1 1 aq.rd (by rw [l106n.out]) one106n.out (by omega) hle rfl (.tmp 87) (.tmp 89) rfl rfl rfl ?_; intro M2 w7 o7 gr7 ob7; obtain ⟨A2, c2, rfl, hcq, _⟩ := own_form o7; have hbl := fun k hk => (World.ownsRow.lt o6 k hk).1; have b7 := hb6.grown gr7 hbs hbl; have fr7 := Fr.of_grown gr7; have ne6 := own_neT o6 av6 (by decide); have K7 := K6.trans (KeepT.grown o6 gr7); have av7 := fr7.av av6 (fun e => ne6 e.symm); have m7 := m6.block (fun b e => gr7.block b (by cases e; exact m6.lt) (by cases e; exact fun e => own_neM o6 m6 e.symm)); have aX7 := fr7.av aX6 (fun e => own_neT o6 aX6 (by decide) e.symm); have f7 := frozen_of_row _ _ 1 _ _ av7; have c7 := av7.cell 1 _ rfl)
 have av8 := av7.set 1 (.slice A2 (N + 1) c2)
 have K8 := K7.trans (KeepT.setR (i := 1) av7 (.slice A2 (N + 1) c2))
 have fr8 := Fr.setCell w7 ⟨R, 1, none⟩ (.slice A2 (N + 1) c2)
 have o8 := own_fr o7 fr8 (fun j e h => own_neT o7 av7 (by decide) (by rw [e, h]))
 have m8 := m7.block (w' := w7.setCell ⟨R, 1, none⟩ (.slice A2 (N + 1) c2)) (fun b e => heap_setCell_other _ _ _ _ (by cases e; exact fun e => hMR e.symm))
 have hgR : g6 ≠ R := by rintro rfl; have := aX7.symm.trans av7; injection Option.some.inj this with _ h2; revert h2; decide
 have aX8 := fr8.av aX7 hgR
 have b8 : Below base w (w7.setCell ⟨R, 1, none⟩ (.slice A2 (N + 1) c2)) := b7.setCell (p := ⟨R, 1, none⟩) hRb _
 obtain ⟨w8, hw8⟩ : ∃ w8, w8 = w7.setCell ⟨R, 1, none⟩ (.slice A2 (N + 1) c2) := ⟨_, rfl⟩
 rw [← hw8] at av8 o8 m8 aX8 b8 K8 ⊢
 clear K6 K7 f7 c7 fr8 fr7 av7 m7 aX7 gr7 ob7 o7 o6 m6 av6 aX6 b7 hb6 hle aq hw8 hbl ne6
 refine wp_region_relT 6 [] Ext (by kernel_rfl) (by kernel_rfl) (by kernel_rfl) (by kernel_rfl) (by kernel_rfl) Ext.refl Ext.trans (by intro p hp; cases hp) ?_
 refine ZM ?_
 refine ZP (c := .pointer (some ⟨R, 0, none⟩)) (fun w _ => by go_simp; first | done | rfl) ?_
 refine ZP (c := .pointer (some ⟨R, 2, none⟩)) (fun w _ => by go_simp; first | done | rfl) ?_
 refine ZP (c := .map (some Mp)) (fun w hw => by have := (av8.below hw.drew).cell 2 _ rfl; go_simp; first | done | rfl) ?_
 refine ZP (c := .agg (hcs X)) (fun w hw => exec_loadAv (l := X.map bv) (aX8.below hw.drew) _ _ rfl rfl _ 32 l32.out Tryd.underlying30 rfl (by kernel_rfl)) ?_
 refine ZM ?_
 refine relEnd fun wa hwa => fill_end ?_
 simp only [List.drop_succ_cons, List.drop_zero]
 have ea := hwa.drew
 have ava := av8.below ea
 have oa := own_below o8 ea
 have ma := m8.below ea
 have Ka := K8.trans (KeepT.ofBelow ea)
 have ba : Below base w wa := b8.trans (ea.mono (Nat.le_trans hbase b8.size))
 clear av8 o8 m8 b8 ea hwa aX8 K8
 refine wpList_mapT ma (by rw [← hN.out]; omega) nd nok.id tfn.out rfl (by rw [nid.out]; rfl) (by rw [← hN.out]; rfl) ?_
 intro wb mb grb
 have frb := Fr.of_grown grb
 have avb := frb.av ava (fun e => hMR (Option.some.inj e))
 have ob := own_fr oa frb (fun k hk e => own_neM oa ma (by rw [hk, e]))
 have bb := ba.grown grb (Nat.le_trans hbase ba.size) (fun k hk => by cases hk; exact hMb)
 have hfin : TAt wb base R most (.slice A2 (N + 1) c2) Mp (ns ++ [nd]) := by
  refine ⟨avb, ?_, mb, ?_, hlim, hRb, hMb, okq.out⟩
  ·rw [List.length_append, List.length_singleton, ← hN.out]
   have : ndl (ns ++ [nd]) = ndl ns ++ ndc nd := by simp [ndl]
   rw [this]
   exact ob
  ·rw [List.length_append, List.length_singleton, ← hN.out]; omega
 have Kb := Lib.hid (Ka.trans (KeepT.map ma grb))
 replace hfin := Lib.hid hfin
 replace bb := Lib.hid bb
 clear avb ob mb frb ava oa ma ba grb Ka
 go_wp2
 go_ret2
 exact ⟨by rw [← hN.out]; rfl, ⟨_, hfin.out⟩, bb.out, Kb.out⟩
end Go.Proofs.YtobjgebojhjhnaaDoor
