import Derived.Test.YtobjgebojhjhnaaGreatDoorChecked
import Derived.WalkKit
import Derived.WalkSpells
import Derived.Lib.Strings
import Derived.Lib.Slices
import Derived.Lib.Small
import Derived.Lib.Walk
import Derived.Lib.BitFns
import Derived.Deep.Light
namespace Go.Proofs.YtobjgebojhjhnaaGreatDoor
set_option maxRecDepth 100000
set_option maxHeartbeats 32000000
open Go.RowKit Tryz
theorem yN:(Lib.len8tab.size:Int)=256:=by
 have:Lib.len8tab.size=256:=by decide
 omega
theorem jR (k a b:Nat) (hk:k≤56) (ha:a≤8) (hb:b=k+a):RowKit.wrap64 ((k:Int)+RowKit.wrap64 (a:Int))=(b:Int):=by
 unfold RowKit.wrap64
 omega
theorem Eh (a:Nat) (ha:a≤8):RowKit.wrap64 (RowKit.wrap64 (a:Int))=(a:Int):=by
 unfold RowKit.wrap64
 omega
theorem GG (a:Nat) (ha:a≤8):RowKit.wrap64 (a:Int)=(a:Int):=by
 unfold RowKit.wrap64
 omega
theorem jS (y:Int) (h:y.toNat<Lib.len8tab.size):((Lib.len8tab[y.toNat]'h).toNat:Int)=Lib.len8 y:=by
 unfold Lib.len8
 rw[getElem?_pos Lib.len8tab y.toNat h]
 rfl
theorem PS (x : Int) (w : World) (h0 : 0 ≤ x) (h1 : x ≤ 18446744073709551615) :
    Calls prog 136 #[.int .u64 x] w fun e w' => e = .returned (.int .i64 (Lib.bitLen x.toNat)) ∧ w' = w := by
  go_enter func136, ntmps136
  go_wp2
  all_goals first
    | (go_ret; refine ⟨congrArg Ending.returned (congrArg (Value.int IntKind.i64) ?_), rfl⟩; go_light)
    | (exfalso
       go_light
       have hs := yN
       omega)
  all_goals first
    | (rw [jS (x / 4294967296 / 65536 / 256) _, Lib.len8_of (x / 4294967296 / 65536 / 256) (by omega) (by omega)]
       have e : (x / 4294967296 / 65536 / 256).toNat = x.toNat / 72057594037927936 := by omega
       have l := Lib.bitLen_le8' (x / 4294967296 / 65536 / 256) (by omega) (by omega)
       have s := Lib.bitLen_shift56 x.toNat (by omega) (by omega)
       rw [e] at l ⊢
       exact jR 56 _ _ (by decide) l s)
    | (rw [jS (x / 4294967296 / 65536) _, Lib.len8_of (x / 4294967296 / 65536) (by omega) (by omega)]
       have e : (x / 4294967296 / 65536).toNat = x.toNat / 281474976710656 := by omega
       have l := Lib.bitLen_le8' (x / 4294967296 / 65536) (by omega) (by omega)
       have s := Lib.bitLen_shift48 x.toNat (by omega) (by omega)
       rw [e] at l ⊢
       exact jR 48 _ _ (by decide) l s)
    | (rw [jS (x / 4294967296 / 256) _, Lib.len8_of (x / 4294967296 / 256) (by omega) (by omega)]
       have e : (x / 4294967296 / 256).toNat = x.toNat / 1099511627776 := by omega
       have l := Lib.bitLen_le8' (x / 4294967296 / 256) (by omega) (by omega)
       have s := Lib.bitLen_shift40 x.toNat (by omega) (by omega)
       rw [e] at l ⊢
       exact jR 40 _ _ (by decide) l s)
    | (rw [jS (x / 4294967296) _, Lib.len8_of (x / 4294967296) (by omega) (by omega)]
       have e : (x / 4294967296).toNat = x.toNat / 4294967296 := by omega
       have l := Lib.bitLen_le8' (x / 4294967296) (by omega) (by omega)
       have s := Lib.bitLen_shift32 x.toNat (by omega) (by omega)
       rw [e] at l ⊢
       exact jR 32 _ _ (by decide) l s)
    | (rw [jS (x / 65536 / 256) _, Lib.len8_of (x / 65536 / 256) (by omega) (by omega)]
       have e : (x / 65536 / 256).toNat = x.toNat / 16777216 := by omega
       have l := Lib.bitLen_le8' (x / 65536 / 256) (by omega) (by omega)
       have s := Lib.bitLen_shift24 x.toNat (by omega) (by omega)
       rw [e] at l ⊢
       exact jR 24 _ _ (by decide) l s)
    | (rw [jS (x / 65536) _, Lib.len8_of (x / 65536) (by omega) (by omega)]
       have e : (x / 65536).toNat = x.toNat / 65536 := by omega
       have l := Lib.bitLen_le8' (x / 65536) (by omega) (by omega)
       have s := Lib.bitLen_shift16 x.toNat (by omega) (by omega)
       rw [e] at l ⊢
       exact jR 16 _ _ (by decide) l s)
    | (rw [jS (x / 256) _, Lib.len8_of (x / 256) (by omega) (by omega)]
       have e : (x / 256).toNat = x.toNat / 256 := by omega
       have l := Lib.bitLen_le8' (x / 256) (by omega) (by omega)
       have s := Lib.bitLen_shift8 x.toNat (by omega) (by omega)
       rw [e] at l ⊢
       exact jR 8 _ _ (by decide) l s)
    | (rw [jS (x) _, Lib.len8_of (x) (by omega) (by omega)]
       have e : (x).toNat = x.toNat := by omega
       have l := Lib.bitLen_le8' (x) (by omega) (by omega)
       rw [e] at l ⊢
       first | exact Eh _ l | exact jR 0 _ _ (by decide) l (by omega) | exact GG _ l)
end Go.Proofs.YtobjgebojhjhnaaGreatDoor
