import Derived.Test.YtobjgebojhjhnaaDoorQr20
namespace Go.Proofs.YtobjgebojhjhnaaDoor
open Go.RowKit
def CnfW (b : Nat) : VP := fun v w => ∃ g, v = .pointer (some ⟨g, 0, none⟩) ∧ b ≤ g ∧ Av w g 84 (cfc zeroCf)
theorem CnfW.mono {b : Nat} {v : Value} {w w' : World} (h : Ext w w') : CnfW b v w → CnfW b v w' := by
 rintro ⟨g, rfl, hg, a⟩
 exact ⟨g, rfl, hg, a.below h⟩
theorem wDepth_ok {ds : List Nd} {tip : Int} {y : List UInt8} {N : List Sn} (hN : OkSns N) {C : Cf} {b : Bool} (h : wDepth ds tip y N = (C, b)) : C.ok := by
 unfold wDepth at h
 split at h
 ·rename_i s hs
  injection h with h _
  rw [← h]
  exact confM_ok (hN s (List.mem_of_find?_eq_some hs))
 ·injection h with h _
  rw [← h]
  exact zeroCf_ok
theorem wDepth_spec {ds : List Nd} {tip : Int} {y : List UInt8} {N : List Sn} {C : Cf} {b : Bool} (h : wDepth ds tip y N = (C, b)) : (b = false ∧ C = zeroCf ∧ ∀ s ∈ N, wLies ds tip y s = false) ∨ (b = true ∧ ∃ s ∈ N, wLies ds tip y s = true ∧ C = confM ds tip s) := by
 unfold wDepth at h
 split at h
 ·rename_i s hs
  injection h with h1 h2
  exact .inr ⟨h2.symm, s, List.mem_of_find?_eq_some hs, List.find?_some hs, h1.symm⟩
 ·rename_i hs
  injection h with h1 h2
  exact .inl ⟨h2.symm, h1.symm, fun s hm => by simpa using List.find?_eq_none.1 hs s hm⟩
theorem confM_blk {ds : List Nd} {tip : Int} {s t : Sn} (h : s.blk = t.blk) : (confM ds tip s).dep = (confM ds tip t).dep := by
 unfold confM
 rw [h]
theorem mDep_pos {ds : List Nd} {tip : Int} {a : Nat} : decide (0 < mDep ds tip a) = mOn ds tip a := by
 unfold mDep
 cases mOn ds tip a <;> simp
theorem lineL_le {ds : List Nd} (ok : TOk ds) (tip : Int) : (lineL ds tip).length ≤ ds.length := by
 unfold lineL
 split
 ·rename_i h
  rw [mLine_length]
  have h2 : tip.toNat < ds.length := by omega
  have := ok.hgt_le h2
  omega
 ·exact Nat.zero_le _
theorem lineL_at {ds : List Nd} (ok : TOk ds) {tip : Int} {a : Nat} (k : Nat) : (lineL ds tip)[k]? = some a ↔ (mOn ds tip a = true ∧ k = tHgt ds a) := by
 unfold lineL mOn
 simp only [decide_eq_true_eq]
 split
 ·rename_i h
  have h2 : tip.toNat < ds.length := by omega
  constructor
  ·intro q
   have hk : k < tHgt ds tip.toNat + 1 := by rw [← mLine_length]; exact (List.getElem?_eq_some_iff.1 q).1
   rw [mLine_at ds tip.toNat k (by omega)] at q
   obtain rfl := Option.some.inj q
   obtain ⟨_, q2, _⟩ := ok.anc h2 (tHgt ds tip.toNat - k) (by omega)
   refine ⟨⟨h.1, h.2, by omega, ?_⟩, by omega⟩
   rw [q2]
   rw [show tHgt ds tip.toNat - (tHgt ds tip.toNat - (tHgt ds tip.toNat - k)) = tHgt ds tip.toNat - k by omega]
  ·rintro ⟨⟨_, _, h3, h4⟩, rfl⟩
   rw [mLine_at ds tip.toNat _ h3, h4]
 ·rename_i h
  constructor
  ·intro q; cases q
  ·rintro ⟨⟨h1, h3, _⟩, _⟩
   exact absurd ⟨h1, h3⟩ h
theorem lineL_dep {ds : List Nd} {tip : Int} {a : Nat} (h : mOn ds tip a = true) : tHgt ds a < (lineL ds tip).length ∧ (lineL ds tip).length - tHgt ds a = mDep ds tip a := by
 have h2 := h
 unfold mOn at h2
 simp only [decide_eq_true_eq] at h2
 unfold mDep lineL
 rw [if_pos h, if_pos ⟨h2.1, h2.2.1⟩, mLine_length]
 omega
def cF (ds : List Nd) (tip : Int) (y : List UInt8) (N : List Sn) (i : Nat) : Bool := (N.take i).any (wLies ds tip y)
def cM (ds : List Nd) (tip : Int) (y : List UInt8) (C : Cf) (s : Sn) : Bool := wLies ds tip y s && ((s.blk == C.blk) && (s.pos == C.pos))
def cB (ds : List Nd) (tip : Int) (y : List UInt8) (C : Cf) (N : List Sn) (i : Nat) : Nat := if (N.take i).any (cM ds tip y C) then C.dep else 0
theorem cF_step {ds : List Nd} {tip : Int} {y : List UInt8} {N : List Sn} {i : Nat} {x : Sn} (h : N[i]? = some x) : cF ds tip y N (i + 1) = (cF ds tip y N i || wLies ds tip y x) := by
 unfold cF
 rw [List.take_add_one, h]
 simp
theorem cB_step {ds : List Nd} {tip : Int} {y : List UInt8} {C : Cf} {N : List Sn} {i : Nat} {x : Sn} (h : N[i]? = some x) : cB ds tip y C N (i + 1) = if cM ds tip y C x then C.dep else cB ds tip y C N i := by
 unfold cB
 rw [List.take_add_one, h]
 simp only [Option.toList_some, List.any_append, List.any_cons, List.any_nil, Bool.or_false]
 cases (N.take i).any (cM ds tip y C) <;> cases cM ds tip y C x <;> simp
theorem cF_end {ds : List Nd} {tip : Int} {y : List UInt8} {N : List Sn} {C : Cf} {b : Bool} (h : wDepth ds tip y N = (C, b)) : cF ds tip y N N.length = b := by
 unfold cF
 rw [List.take_length]
 rcases wDepth_spec h with ⟨rfl, _, h2⟩ | ⟨rfl, s, hs, h2, _⟩
 ·rw [List.any_eq_false]
  intro s hs
  rw [h2 s hs]
  decide
 ·rw [List.any_eq_true]
  exact ⟨s, hs, h2⟩
theorem cB_end {ds : List Nd} {tip : Int} {y : List UInt8} {N : List Sn} {C : Cf} {b : Bool} (h : wDepth ds tip y N = (C, b)) : (b = false → C.dep = 0) ∧ (b = true → cB ds tip y C N N.length = C.dep ∧ 0 < C.dep ∧ C.id = y) := by
 rcases wDepth_spec h with ⟨rfl, h1, h2⟩ | ⟨rfl, s, hs, h2, h1⟩
 ·exact ⟨fun _ => by rw [h1]; rfl, fun h => by cases h⟩
 ·refine ⟨(fun h => by cases h), fun _ => ⟨?_, ?_, ?_⟩⟩
  ·unfold cB
   rw [List.take_length, if_pos]
   rw [List.any_eq_true]
   refine ⟨s, hs, ?_⟩
   unfold cM
   rw [h2, h1]
   simp [confM]
  ·unfold wLies at h2
   simp only [Bool.and_eq_true, decide_eq_true_eq] at h2
   rw [h1]
   exact h2.2
  ·unfold wLies at h2
   simp only [Bool.and_eq_true, decide_eq_true_eq] at h2
   rw [h1]
   exact eq_of_beq h2.1
theorem cM_dep {ds : List Nd} {tip : Int} {y : List UInt8} {N : List Sn} {C : Cf} {b : Bool} (h : wDepth ds tip y N = (C, b)) {x : Sn} (hx : x ∈ N) (hm : cM ds tip y C x = true) : (confM ds tip x).dep = C.dep := by
 unfold cM at hm
 simp only [Bool.and_eq_true] at hm
 rcases wDepth_spec h with ⟨_, _, h2⟩ | ⟨_, s, _, _, h1⟩
 ·rw [h2 x hx] at hm
  cases hm.1
 ·rw [h1]
  refine confM_blk ?_
  have := eq_of_beq hm.2.1
  rw [this, h1]
  rfl
theorem ints_atW {w : World} {A : Option Addr} {l : List Nat} {j z : Nat} (r : Rd w A (l.map iv)) (h : l[j]? = some z) : ∃ b off, A = some ⟨b, off, none⟩ ∧ ∀ (j z : Nat), l[j]? = some z → w.cell? ⟨b, off + j, none⟩ = some (.int .i64 (z : Int)) := by
 rcases r with r | ⟨b, off, h1, h2⟩
 ·rw [List.map_eq_nil_iff] at r; rw [r] at h; cases h
 ·exact ⟨b, off, h1, fun j z h => h2 j _ (by rw [List.getElem?_map, h]; rfl)⟩
end Go.Proofs.YtobjgebojhjhnaaDoor
