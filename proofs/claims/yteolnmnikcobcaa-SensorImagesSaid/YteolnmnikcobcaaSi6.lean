/- SensorImages: for every pair of images the law returns true, and both read behind the call as before; no conditions. Part 6 of 10. -/
import Derived.Test.YteolnmnikcobcaaSi5
/- Seat's table for V: the loops' marks (live temps); which functions may hand back a part of an argument. -/
namespace Go.Proofs
open Go Go.Sx Go.Vx
set_option maxRecDepth 100000
def vt1A : List Nat := [35, 153, 129, 130, 154, 155, 97, 96, 131, 133, 132, 98, 134, 136, 135, 156, 53, 65, 67, 68, 105, 103, 69, 106, 55, 99, 95, 54, 52, 47, 10, 11]
def vt1N (f : Nat) : An :=
  bif Nat.beq f 8 then (.seq .nil (.seq .nil (.seq .nil (.seq (.seq .nil (.block (.loop 0 [] [1, 32, 33, 34] .nil))) .nil)))) else
  bif Nat.beq f 10 then (.seq .nil (.seq .nil (.seq .nil (.seq .nil (.seq (.seq .nil (.block (.loop 0 [] [4, 6, 7, 26, 27, 28] (.seq .nil (.seq .nil (.seq (.block (.seq .nil (.seq .nil (.seq (.seq .nil (.block (.loop 1 [] [4, 6, 7, 8, 9, 10, 26, 27, 28, 37, 38, 39] .nil))) (.seq (.seq .nil (.cond (.seq .nil (.block (.loop 2 [] [4, 7, 9, 10, 26, 27, 28, 74, 75, 76] .nil))) .nil)) .nil))))) .nil)))))) .nil))))) else
  bif Nat.beq f 11 then (.seq .nil (.seq .nil (.seq .nil (.seq .nil (.seq (.seq .nil (.block (.loop 0 [] [2, 4, 6, 20, 21, 22] .nil))) .nil))))) else
  bif Nat.beq f 12 then (.seq .nil (.seq .nil (.seq .nil (.seq (.seq .nil (.block (.loop 0 [] [1, 4] .nil))) .nil)))) else
  bif Nat.beq f 13 then (.seq .nil (.seq .nil (.seq (.seq .nil (.block (.loop 0 [] [0, 1, 5] .nil))) .nil))) else
  bif Nat.beq f 14 then (.seq .nil (.seq .nil (.seq (.seq .nil (.block (.loop 0 [] [1, 3, 4, 5] (.seq .nil (.seq (.block (.seq .nil (.seq (.seq .nil (.block (.loop 1 [] [1, 3, 4, 5, 6, 7] .nil))) (.seq (.seq .nil (.block (.loop 2 [] [1, 3, 4, 5, 6, 8] .nil))) .nil)))) .nil))))) .nil))) else
  bif Nat.beq f 15 then (.seq .nil (.seq .nil (.seq (.seq .nil (.block (.loop 0 [] [1, 2, 3, 4] .nil))) .nil))) else
  bif Nat.beq f 16 then (.seq .nil (.seq .nil (.seq .nil (.seq .nil (.seq .nil (.seq (.seq .nil (.block (.loop 0 [] [1, 4, 6, 9, 44, 45, 46] .nil))) (.seq .nil (.seq .nil (.seq (.seq .nil (.block (.loop 1 [] [1, 4, 9, 12, 13, 55, 56, 57] (.seq .nil (.seq .nil (.seq (.block (.seq .nil (.seq .nil (.seq (.seq .nil (.block (.loop 2 [] [1, 4, 9, 12, 13, 15, 16, 55, 56, 57, 64, 65, 66] .nil))) .nil)))) .nil)))))) .nil))))))))) else
  bif Nat.beq f 18 then (.seq .nil (.seq .nil (.seq .nil (.seq .nil (.seq .nil (.seq (.seq .nil (.block (.loop 0 [] [3, 4, 7, 9, 10, 11, 35, 36] (.seq .nil (.seq .nil (.seq (.block (.seq .nil (.seq .nil (.seq (.seq .nil (.block (.loop 1 [] [3, 4, 7, 9, 10, 11, 12, 13, 14, 35, 36, 52, 53] .nil))) .nil)))) .nil)))))) .nil)))))) else
  bif Nat.beq f 19 then (.seq .nil (.seq .nil (.seq .nil (.seq (.seq .nil (.block (.loop 0 [] [4, 5, 12, 13, 14] .nil))) .nil)))) else
  bif Nat.beq f 20 then (.seq .nil (.seq .nil (.seq (.seq .nil (.block (.loop 0 [] [0, 3, 4, 5] .nil))) .nil))) else
  bif Nat.beq f 22 then (.seq .nil (.seq .nil (.seq (.seq .nil (.block (.loop 0 [] [1, 5] .nil))) .nil))) else
  bif Nat.beq f 24 then (.seq .nil (.seq .nil (.seq .nil (.seq (.seq .nil (.block (.loop 0 [] [1, 2, 4, 5, 6, 7] (.seq .nil (.seq (.block (.seq .nil (.seq (.seq .nil (.block (.loop 1 [] [1, 2, 4, 5, 6, 7, 8, 9] .nil))) .nil))) .nil))))) .nil)))) else
  bif Nat.beq f 27 then (.seq .nil (.seq .nil (.seq (.seq .nil (.block (.loop 0 [] [2, 3, 4, 6, 7] .nil))) .nil))) else
  bif Nat.beq f 30 then (.seq .nil (.seq (.seq .nil (.block (.loop 0 [] [0, 3] .nil))) .nil)) else
  bif Nat.beq f 32 then (.seq .nil (.seq .nil (.seq (.seq .nil (.block (.loop 0 [] [0, 3, 4] .nil))) .nil))) else
  bif Nat.beq f 34 then (.seq .nil (.seq .nil (.seq (.seq .nil (.block (.loop 0 [] [0, 3] .nil))) (.seq .nil (.seq .nil (.seq (.seq .nil (.block (.loop 1 [] [0, 4, 5] (.seq .nil (.seq (.block (.seq .nil (.block (.loop 2 [] [0, 4, 5, 6] .nil)))) .nil))))) .nil)))))) else
  bif Nat.beq f 36 then (.seq .nil (.seq .nil (.seq (.seq .nil (.block (.loop 0 [] [0, 2, 3, 4, 5, 6] (.seq .nil (.seq (.block (.seq .nil (.block (.loop 1 [] [0, 2, 3, 4, 5, 6, 7] .nil)))) .nil))))) .nil))) else
  bif Nat.beq f 44 then (.seq .nil (.seq (.seq .nil (.block (.loop 0 [] [5, 6, 7] .nil))) .nil)) else
  bif Nat.beq f 59 then (.seq .nil (.seq .nil (.seq .nil (.seq (.seq .nil (.block (.loop 0 [] [4, 5, 6, 19, 20, 21] .nil))) .nil)))) else
  bif Nat.beq f 63 then (.seq .nil (.seq .nil (.seq (.seq .nil (.block (.loop 0 [] [0, 2, 3, 4] .nil))) (.seq .nil (.seq .nil (.seq (.seq .nil (.block (.loop 1 [] [0, 2, 5, 7, 8] .nil))) .nil)))))) else
  bif Nat.beq f 83 then (.seq .nil (.seq .nil (.seq .nil (.seq .nil (.seq (.seq .nil (.block (.loop 0 [] [0, 3, 4, 5, 6, 14, 15, 16] .nil))) .nil))))) else
  bif Nat.beq f 84 then (.seq .nil (.seq .nil (.seq (.seq .nil (.block (.loop 0 [] [2, 3, 8, 9, 10] (.seq .nil (.seq .nil (.seq (.block (.seq .nil (.seq .nil (.block (.loop 1 [] [2, 3, 4, 8, 9, 10, 15, 16, 17] .nil))))) .nil)))))) .nil))) else
  bif Nat.beq f 87 then (.seq .nil (.seq (.seq .nil (.block (.loop 0 [] [5, 6, 7] .nil))) .nil)) else
  bif Nat.beq f 94 then (.seq .nil (.seq .nil (.seq (.seq .nil (.block (.loop 0 [] [3, 6, 7, 8] (.seq .nil (.seq .nil (.seq (.block (.seq .nil (.block (.loop 1 [] [3, 5, 6, 7, 8] .nil)))) .nil)))))) .nil))) else
  bif Nat.beq f 95 then (.seq .nil (.seq .nil (.seq .nil (.seq .nil (.seq (.block (.loop 0 [⟨4, none, .grow 1⟩] [0, 2, 3, 4] .nil)) .nil))))) else
  bif Nat.beq f 98 then (.seq .nil (.seq .nil (.seq (.seq .nil (.block (.loop 0 [] [2, 3, 4, 5, 6] (.seq .nil (.seq (.block (.seq .nil (.seq (.seq .nil (.block (.loop 1 [] [2, 3, 4, 5, 6, 7, 8] .nil))) .nil))) .nil))))) .nil))) else
  bif Nat.beq f 99 then (.seq .nil (.seq .nil (.seq .nil (.seq (.seq .nil (.block (.loop 0 [] [1, 4, 5] .nil))) .nil)))) else
  bif Nat.beq f 101 then (.seq .nil (.seq (.seq .nil (.block (.loop 0 [] [0, 1, 7, 8] .nil))) .nil)) else
  bif Nat.beq f 104 then (.seq .nil (.seq (.block (.loop 0 [] [0, 1] .nil)) .nil)) else
  bif Nat.beq f 110 then (.seq .nil (.seq .nil (.seq (.seq .nil (.block (.loop 0 [] [3, 6, 7, 8] (.seq .nil (.seq .nil (.seq (.block (.seq .nil (.block (.loop 1 [] [3, 5, 6, 7, 8] .nil)))) .nil)))))) .nil))) else
  bif Nat.beq f 131 then (.seq .nil (.seq .nil (.seq (.block (.loop 0 [] [2, 3, 4] .nil)) .nil))) else
  bif Nat.beq f 133 then (.seq .nil (.seq .nil (.seq .nil (.seq (.seq .nil (.block (.loop 0 [⟨6, none, .frz 1⟩] [2, 3, 4, 5, 6, 7] (.seq .nil (.seq (.block (.seq .nil (.seq .nil (.seq (.block (.loop 1 [] [2, 3, 4, 5, 6, 7, 8, 9] .nil)) .nil)))) .nil))))) .nil)))) else
  bif Nat.beq f 134 then (.seq .nil (.seq .nil (.seq .nil (.seq (.seq .nil (.block (.loop 0 [⟨5, none, .grow 1⟩] [0, 1, 5, 6, 7] .nil))) .nil)))) else
  bif Nat.beq f 135 then (.seq .nil (.seq .nil (.seq (.seq .nil (.block (.loop 0 [] [0, 1, 5] .nil))) .nil))) else
  bif Nat.beq f 136 then (.seq .nil (.seq .nil (.seq .nil (.seq (.seq .nil (.block (.loop 0 [⟨5, none, .grow 1⟩] [0, 1, 5, 6, 7] .nil))) .nil)))) else
  bif Nat.beq f 150 then (.seq .nil (.seq (.seq .nil (.block (.loop 0 [] [0, 1, 7, 8] .nil))) .nil)) else
  bif Nat.beq f 153 then (.seq .nil (.seq .nil (.seq (.block (.loop 0 [] [0, 3] .nil)) .nil))) else
  .nil
def vt1P (f : Nat) : Bool := Nat.beq f 6 || Nat.beq f 29
noncomputable def vt1 : VTab := { tab := tabV vt1P BIG, al := fun f => memN f vt1A, an := vt1N }
end Go.Proofs
/- Equations of V for functions of the program: written by a program of this session (NF, NFg, gq). -/
namespace Go.Proofs
open Go Go.Sx Go.Vx
set_option maxRecDepth 100000
set_option maxHeartbeats 0
theorem e114 (ih : VIh) (x0 : Int) (x1 : Int) (x2 : Int) : callF vt1 ih 114 [DV.int x0, DV.int x1, DV.int x2] =
  (bif decide (x1 ≤ x0) then
   some (DV.bool (decide (x0 ≤ x2)))
  else some (DV.bool false)) := by kernel_rfl
theorem e88 (ih : VIh) (b0 : Bool) (x1 : Int) : callF vt1 ih 88 [DV.bool b0, DV.int x1] =
  (bif b0 then
   some (DV.int 0)
  else some (DV.int x1)) := by kernel_rfl
theorem e87 (ih : VIh) (l0 : List DV) : callF vt1 ih 87 [DV.list true false 1 l0] =
  ih.at_ 87 0 (tblL [(5, DV.list true false 1 l0), (6, DV.int (↑l0.length : Int)), (7, DV.int 0)]) [] := by kernel_rfl
theorem e87_0 (ih : VIh) (l0 : List DV) (x1 : Int) (x2 : Int) : atF vt1 ih 87 0 (tblL [(5, DV.list true false 1 l0), (6, DV.int x1), (7, DV.int x2)]) [] =
  (bif decide (x2 < x1) then
   (bif okR l0 x2 { ag := false, css := [CS.int] } then
    (bif !decide (asI (l0.getD x2.toNat DV.undef) = 0) then
     some (DV.int (asI (l0.getD x2.toNat DV.undef)))
    else ih.at_ 87 0 (tblL [(5, DV.list true false 1 l0), (6, DV.int x1), (7, DV.int (w64 (x2 + 1)))]) [])
   else none)
  else some (DV.int 0)) := by kernel_rfl
theorem e86 (ih : VIh) (l0 : List DV) : callF vt1 ih 86 [DV.list true false 1 l0] =
  (bif decide ((↑l0.length : Int) = 0) then
   some (DV.int 0)
  else (bif okR l0 0 { ag := false, css := [CS.list 1] } then
    some (DV.int (↑(asR (l0.getD 0 DV.undef)).length : Int))
   else none)) := by kernel_rfl
theorem e123 (ih : VIh) (x0 : Int) : callF vt1 ih 123 [DV.int x0] =
  bindC (ih.call 114 [DV.int x0, DV.int 0, DV.int 255]) fun r0 =>
   (bif isRes [{ ag := false, css := [CS.bool] }] r0 then
    some (DV.bool !asB r0)
   else none) := by kernel_rfl
theorem e124 (ih : VIh) (x0 : Int) : callF vt1 ih 124 [DV.int x0] =
  some (DV.bool !decide (x0 = 0)) := by kernel_rfl
theorem e83 (ih : VIh) (l0 : List DV) : callF vt1 ih 83 [DV.list true false 1 l0] =
  bindC (ih.call 86 [DV.list true false 1 l0]) fun r0 =>
   (bif isRes [{ ag := false, css := [CS.int] }] r0 then
    bindC (ih.call 121 [DV.list true false 1 l0, DV.func 122 [] [DV.fbp true [DV.int (asI r0)] 0]]) fun r2 =>
     (bif isRes [{ ag := false, css := [CS.bool] }] r2 then
      ih.at_ 83 0 (tblL [(0, DV.list true false 1 l0), (3, DV.ptr 0 0), (4, DV.bool (asB r2)), (5, DV.bool false), (6, DV.bool true), (14, DV.list true false 1 l0), (15, DV.int (↑l0.length : Int)), (16, DV.int 0)]) [.box [DV.int (asI r0)]]
     else none)
   else none) := by kernel_rfl
theorem e83_0 (ih : VIh) (l0 : List DV) (b1 : Bool) (b2 : Bool) (b3 : Bool) (l4 : List DV) (x5 : Int) (x6 : Int) (x7 : Int) : atF vt1 ih 83 0 (tblL [(0, DV.list true false 1 l0), (3, DV.ptr 0 0), (4, DV.bool b1), (5, DV.bool b2), (6, DV.bool b3), (14, DV.list true false 1 l4), (15, DV.int x5), (16, DV.int x6)]) [VB.box [DV.int x7]] =
  (bif decide (x6 < x5) then
   (bif okR l4 x6 { ag := false, css := [CS.list 1] } then
    (bif b2 then
     (bif b3 then
      bindC (ih.call 56 [DV.list true false 1 (asR (l4.getD x6.toNat DV.undef)), DV.func 124 [] []]) fun r4 =>
       (bif isRes [{ ag := false, css := [CS.bool] }] r4 then
        ih.at_ 83 0 (tblL [(0, DV.list true false 1 l0), (3, DV.ptr 0 0), (4, DV.bool b1), (5, DV.bool true), (6, DV.bool !asB r4), (14, DV.list true false 1 l4), (15, DV.int x5), (16, DV.int (w64 (x6 + 1)))]) [.box [DV.int x7]]
       else none)
     else ih.at_ 83 0 (tblL [(0, DV.list true false 1 l0), (3, DV.ptr 0 0), (4, DV.bool b1), (5, DV.bool true), (6, DV.bool false), (14, DV.list true false 1 l4), (15, DV.int x5), (16, DV.int (w64 (x6 + 1)))]) [.box [DV.int x7]])
    else bindC (ih.call 56 [DV.list true false 1 (asR (l4.getD x6.toNat DV.undef)), DV.func 123 [] []]) fun r6 =>
      (bif isRes [{ ag := false, css := [CS.bool] }] r6 then
       (bif b3 then
        bindC (ih.call 56 [DV.list true false 1 (asR (l4.getD x6.toNat DV.undef)), DV.func 124 [] []]) fun r9 =>
         (bif isRes [{ ag := false, css := [CS.bool] }] r9 then
          ih.at_ 83 0 (tblL [(0, DV.list true false 1 l0), (3, DV.ptr 0 0), (4, DV.bool b1), (5, DV.bool (asB r6)), (6, DV.bool !asB r9), (14, DV.list true false 1 l4), (15, DV.int x5), (16, DV.int (w64 (x6 + 1)))]) [.box [DV.int x7]]
         else none)
       else ih.at_ 83 0 (tblL [(0, DV.list true false 1 l0), (3, DV.ptr 0 0), (4, DV.bool b1), (5, DV.bool (asB r6)), (6, DV.bool false), (14, DV.list true false 1 l4), (15, DV.int x5), (16, DV.int (w64 (x6 + 1)))]) [.box [DV.int x7]])
      else none))
   else none)
  else (bif decide (0 < x7) then
    bindC (ih.call 88 [DV.bool !b1, DV.int 10]) fun r12 =>
     (bif isRes [{ ag := false, css := [CS.int] }] r12 then
      (bif decide (x7 ≤ 10) then
       bindC (ih.call 88 [DV.bool (decide ((↑l0.length : Int) ≤ 10)), DV.int 8]) fun r15 =>
        (bif isRes [{ ag := false, css := [CS.int] }] r15 then
         bindC (ih.call 88 [DV.bool !b2, DV.int 2]) fun r17 =>
          (bif isRes [{ ag := false, css := [CS.int] }] r17 then
           bindC (ih.call 88 [DV.bool !b3, DV.int 11]) fun r19 =>
            (bif isRes [{ ag := false, css := [CS.int] }] r19 then
            bindC (ih.call 87 [DV.list true false 1 [DV.int (asI r12), DV.int (asI r15), DV.int (asI r17), DV.int (asI r19)]]) fun r21 =>
            (bif isRes [{ ag := false, css := [CS.int] }] r21 then
            some (DV.int (asI r21))
            else none)
            else none)
          else none)
        else none)
      else bindC (ih.call 88 [DV.bool false, DV.int 8]) fun r23 =>
        (bif isRes [{ ag := false, css := [CS.int] }] r23 then
         bindC (ih.call 88 [DV.bool !b2, DV.int 2]) fun r25 =>
          (bif isRes [{ ag := false, css := [CS.int] }] r25 then
           bindC (ih.call 88 [DV.bool !b3, DV.int 11]) fun r27 =>
            (bif isRes [{ ag := false, css := [CS.int] }] r27 then
            bindC (ih.call 87 [DV.list true false 1 [DV.int (asI r12), DV.int (asI r23), DV.int (asI r25), DV.int (asI r27)]]) fun r29 =>
            (bif isRes [{ ag := false, css := [CS.int] }] r29 then
            some (DV.int (asI r29))
            else none)
            else none)
          else none)
        else none))
     else none)
   else bindC (ih.call 88 [DV.bool false, DV.int 10]) fun r31 =>
     (bif isRes [{ ag := false, css := [CS.int] }] r31 then
      (bif decide (x7 ≤ 10) then
       bindC (ih.call 88 [DV.bool (decide ((↑l0.length : Int) ≤ 10)), DV.int 8]) fun r34 =>
        (bif isRes [{ ag := false, css := [CS.int] }] r34 then
         bindC (ih.call 88 [DV.bool !b2, DV.int 2]) fun r36 =>
          (bif isRes [{ ag := false, css := [CS.int] }] r36 then
           bindC (ih.call 88 [DV.bool !b3, DV.int 11]) fun r38 =>
            (bif isRes [{ ag := false, css := [CS.int] }] r38 then
            bindC (ih.call 87 [DV.list true false 1 [DV.int (asI r31), DV.int (asI r34), DV.int (asI r36), DV.int (asI r38)]]) fun r40 =>
            (bif isRes [{ ag := false, css := [CS.int] }] r40 then
            some (DV.int (asI r40))
            else none)
            else none)
          else none)
        else none)
      else bindC (ih.call 88 [DV.bool false, DV.int 8]) fun r42 =>
        (bif isRes [{ ag := false, css := [CS.int] }] r42 then
         bindC (ih.call 88 [DV.bool !b2, DV.int 2]) fun r44 =>
          (bif isRes [{ ag := false, css := [CS.int] }] r44 then
           bindC (ih.call 88 [DV.bool !b3, DV.int 11]) fun r46 =>
            (bif isRes [{ ag := false, css := [CS.int] }] r46 then
            bindC (ih.call 87 [DV.list true false 1 [DV.int (asI r31), DV.int (asI r42), DV.int (asI r44), DV.int (asI r46)]]) fun r48 =>
            (bif isRes [{ ag := false, css := [CS.int] }] r48 then
            some (DV.int (asI r48))
            else none)
            else none)
          else none)
        else none))
     else none))) := by kernel_rfl
theorem e84 (ih : VIh) (l0 : List DV) : callF vt1 ih 84 [DV.list true false 1 l0] =
  ih.at_ 84 0 (tblL [(2, DV.ptr 0 0), (3, DV.ptr 1 0), (8, DV.list true false 1 l0), (9, DV.int (↑l0.length : Int)), (10, DV.int 0)]) [.box [DV.int 0, DV.int 0, DV.int 0], .box [DV.int 0, DV.int 0, DV.int 0]] := by kernel_rfl
theorem e84_0 (ih : VIh) (l0 : List DV) (x1 : Int) (x2 : Int) (x3 : Int) (x4 : Int) (x5 : Int) (x6 : Int) (x7 : Int) (x8 : Int) : atF vt1 ih 84 0 (tblL [(2, DV.ptr 0 0), (3, DV.ptr 1 0), (8, DV.list true false 1 l0), (9, DV.int x1), (10, DV.int x2)]) [VB.box [DV.int x3, DV.int x4, DV.int x5], VB.box [DV.int x6, DV.int x7, DV.int x8]] =
  (bif decide (x2 < x1) then
   (bif okR l0 x2 { ag := false, css := [CS.list 1] } then
    ih.at_ 84 1 (tblL [(2, DV.ptr 0 0), (3, DV.ptr 1 0), (4, DV.int x2), (8, DV.list true false 1 l0), (9, DV.int x1), (10, DV.int x2), (15, DV.list false false 1 (asR (l0.getD x2.toNat DV.undef))), (16, DV.int (↑(asR (l0.getD x2.toNat DV.undef)).length : Int)), (17, DV.int 0)]) [.box [DV.int x3, DV.int x4, DV.int x5], .box [DV.int x6, DV.int x7, DV.int x8]]
   else none)
  else some (DV.agg [DV.int x6, DV.int x7, DV.int x8])) := by kernel_rfl
theorem e84_1 (ih : VIh) (x0 : Int) (l1 : List DV) (x2 : Int) (x3 : Int) (l4 : List DV) (x5 : Int) (x6 : Int) (x7 : Int) (x8 : Int) (x9 : Int) (x10 : Int) (x11 : Int) (x12 : Int) : atF vt1 ih 84 1 (tblL [(2, DV.ptr 0 0), (3, DV.ptr 1 0), (4, DV.int x0), (8, DV.list true false 1 l1), (9, DV.int x2), (10, DV.int x3), (15, DV.list false false 1 l4), (16, DV.int x5), (17, DV.int x6)]) [VB.box [DV.int x7, DV.int x8, DV.int x9], VB.box [DV.int x10, DV.int x11, DV.int x12]] =
  (bif decide (x6 < x5) then
   (bif okR l4 x6 { ag := false, css := [CS.int] } then
    ih.at_ 84 1 (tblL [(2, DV.ptr 0 0), (3, DV.ptr 1 0), (4, DV.int x0), (8, DV.list true false 1 l1), (9, DV.int x2), (10, DV.int x3), (15, DV.list false false 1 l4), (16, DV.int x5), (17, DV.int (w64 (x6 + 1)))]) [.box [DV.int x7, DV.int x8, DV.int x9], .box [DV.int (w64 (x10 + w64 (x6 * asI (l4.getD x6.toNat DV.undef)))),
  DV.int (w64 (x11 + w64 (x0 * asI (l4.getD x6.toNat DV.undef)))), DV.int (w64 (x12 + asI (l4.getD x6.toNat DV.undef)))]]
   else none)
  else ih.at_ 84 0 (tblL [(2, DV.ptr 0 0), (3, DV.ptr 1 0), (8, DV.list true false 1 l1), (9, DV.int x2), (10, DV.int (w64 (x3 + 1)))]) [.box [DV.int x7, DV.int x8, DV.int x9], .box [DV.int x10, DV.int x11, DV.int x12]]) := by kernel_rfl
theorem e85 (ih : VIh) (x0 : Int) (x1 : Int) : callF vt1 ih 85 [DV.int x0, DV.int x1] =
  bindC (ih.call 110 [DV.list true false 1 [DV.int x0, DV.int x1]]) fun r0 =>
   (bif isRes [{ ag := false, css := [CS.int] }] r0 then
    (bif decide (asI r0 = 0) then
     none
    else (bif decide (asI r0 = 0) then
      none
     else some (DV.agg [DV.int (w64 (x0.tdiv (asI r0))), DV.int (w64 (x1.tdiv (asI r0)))])))
   else none) := by kernel_rfl
theorem e110 (ih : VIh) (l0 : List DV) : callF vt1 ih 110 [DV.list true false 1 l0] =
  ih.at_ 110 0 (tblL [(3, DV.int 0), (6, DV.list true false 1 l0), (7, DV.int (↑l0.length : Int)), (8, DV.int 0)]) [] := by kernel_rfl
theorem e110_0 (ih : VIh) (x0 : Int) (l1 : List DV) (x2 : Int) (x3 : Int) : atF vt1 ih 110 0 (tblL [(3, DV.int x0), (6, DV.list true false 1 l1), (7, DV.int x2), (8, DV.int x3)]) [] =
  (bif decide (x3 < x2) then
   (bif okR l1 x3 { ag := false, css := [CS.int] } then
    ih.at_ 110 1 (tblL [(3, DV.int x0), (5, DV.int (asI (l1.getD x3.toNat DV.undef))), (6, DV.list true false 1 l1), (7, DV.int x2), (8, DV.int x3)]) []
   else none)
  else some (DV.int (max x0 (w64 (0 - x0))))) := by kernel_rfl
theorem e110_1 (ih : VIh) (x0 : Int) (x1 : Int) (l2 : List DV) (x3 : Int) (x4 : Int) : atF vt1 ih 110 1 (tblL [(3, DV.int x0), (5, DV.int x1), (6, DV.list true false 1 l2), (7, DV.int x3), (8, DV.int x4)]) [] =
  (bif !decide (x1 = 0) then
   (bif decide (x1 = 0) then
    none
   else ih.at_ 110 1 (tblL [(3, DV.int x1), (5, DV.int (x0.tmod x1)), (6, DV.list true false 1 l2), (7, DV.int x3), (8, DV.int x4)]) [])
  else ih.at_ 110 0 (tblL [(3, DV.int x0), (6, DV.list true false 1 l2), (7, DV.int x3), (8, DV.int (w64 (x4 + 1)))]) []) := by kernel_rfl
theorem e31 (ih : VIh) (l0 : List DV) : callF vt1 ih 31 [DV.list true false 1 l0] =
  bindC (ih.call 83 [DV.list true false 1 l0]) fun r0 =>
   (bif isRes [{ ag := false, css := [CS.int] }] r0 then
    (bif !decide (asI r0 = 0) then
     some (DV.tup [DV.agg [DV.int 0, DV.int 0, DV.int 0, DV.int 0], DV.int (asI r0)])
    else bindC (ih.call 84 [DV.list true false 1 l0]) fun r3 =>
      (bif isRes [{ ag := true, css := [CS.int, CS.int, CS.int] }] r3 then
       bindC (ih.call 85 [DV.int (asI (cellOf r3 0)), DV.int (asI (cellOf r3 2))]) fun r5 =>
        (bif isRes [{ ag := true, css := [CS.int, CS.int] }] r5 then
         bindC (ih.call 85 [DV.int (asI (cellOf r3 1)), DV.int (asI (cellOf r3 2))]) fun r7 =>
          (bif isRes [{ ag := true, css := [CS.int, CS.int] }] r7 then
           some (DV.tup
  [DV.agg
      [DV.int (asI (cellOf r5 0)), DV.int (asI (cellOf r5 1)), DV.int (asI (cellOf r7 0)), DV.int (asI (cellOf r7 1))],
    DV.int 0])
          else none)
        else none)
      else none))
   else none) := by kernel_rfl
theorem e33 (ih : VIh) (l0 : List DV) (l1 : List DV) : callF vt1 ih 33 [DV.list true false 1 l0, DV.list true false 1 l1] =
  (bif decide ((↑l0.length : Int) = (↑l1.length : Int)) then
   bindC (ih.call 86 [DV.list true false 1 l0]) fun r1 =>
    (bif isRes [{ ag := false, css := [CS.int] }] r1 then
     bindC (ih.call 86 [DV.list true false 1 l1]) fun r3 =>
      (bif isRes [{ ag := false, css := [CS.int] }] r3 then
       bindC (ih.call 83 [DV.list true false 1 l0]) fun r5 =>
        (bif isRes [{ ag := false, css := [CS.int] }] r5 then
         bindC (ih.call 83 [DV.list true false 1 l1]) fun r7 =>
          (bif isRes [{ ag := false, css := [CS.int] }] r7 then
           bindC (ih.call 88 [DV.bool (decide (asI r1 = asI r3)), DV.int 13]) fun r9 =>
            (bif isRes [{ ag := false, css := [CS.int] }] r9 then
            bindC (ih.call 87 [DV.list true false 1 [DV.int (asI r5), DV.int (asI r7), DV.int (asI r9)]]) fun r11 =>
            (bif isRes [{ ag := false, css := [CS.int] }] r11 then
            (bif !decide (asI r11 = 0) then
            some (DV.tup [DV.agg [DV.int 0, DV.int 0, DV.int 0, DV.int 0], DV.int (asI r11)])
            else bindC (ih.call 84 [DV.list true false 1 l0]) fun r14 =>
            (bif isRes [{ ag := true, css := [CS.int, CS.int, CS.int] }] r14 then
            bindC (ih.call 84 [DV.list true false 1 l1]) fun r16 =>
            (bif isRes [{ ag := true, css := [CS.int, CS.int, CS.int] }] r16 then
            bindC (ih.call 85 [DV.int (w64 (w64 (asI (cellOf r16 0) * asI (cellOf r14 2)) - w64 (asI (cellOf r14 0) * asI (cellOf r16 2)))),
  DV.int (w64 (asI (cellOf r14 2) * asI (cellOf r16 2)))]) fun r18 =>
            (bif isRes [{ ag := true, css := [CS.int, CS.int] }] r18 then
            bindC (ih.call 85 [DV.int (w64 (w64 (asI (cellOf r16 1) * asI (cellOf r14 2)) - w64 (asI (cellOf r14 1) * asI (cellOf r16 2)))),
  DV.int (w64 (asI (cellOf r14 2) * asI (cellOf r16 2)))]) fun r20 =>
            (bif isRes [{ ag := true, css := [CS.int, CS.int] }] r20 then
            some (DV.tup
  [DV.agg
      [DV.int (asI (cellOf r18 0)), DV.int (asI (cellOf r18 1)), DV.int (asI (cellOf r20 0)),
        DV.int (asI (cellOf r20 1))],
    DV.int 0])
            else none)
            else none)
            else none)
            else none))
            else none)
            else none)
          else none)
        else none)
      else none)
    else none)
  else bindC (ih.call 83 [DV.list true false 1 l0]) fun r22 =>
    (bif isRes [{ ag := false, css := [CS.int] }] r22 then
     bindC (ih.call 83 [DV.list true false 1 l1]) fun r24 =>
      (bif isRes [{ ag := false, css := [CS.int] }] r24 then
       bindC (ih.call 88 [DV.bool false, DV.int 13]) fun r26 =>
        (bif isRes [{ ag := false, css := [CS.int] }] r26 then
         bindC (ih.call 87 [DV.list true false 1 [DV.int (asI r22), DV.int (asI r24), DV.int (asI r26)]]) fun r28 =>
          (bif isRes [{ ag := false, css := [CS.int] }] r28 then
           (bif !decide (asI r28 = 0) then
            some (DV.tup [DV.agg [DV.int 0, DV.int 0, DV.int 0, DV.int 0], DV.int (asI r28)])
           else bindC (ih.call 84 [DV.list true false 1 l0]) fun r31 =>
            (bif isRes [{ ag := true, css := [CS.int, CS.int, CS.int] }] r31 then
            bindC (ih.call 84 [DV.list true false 1 l1]) fun r33 =>
            (bif isRes [{ ag := true, css := [CS.int, CS.int, CS.int] }] r33 then
            bindC (ih.call 85 [DV.int (w64 (w64 (asI (cellOf r33 0) * asI (cellOf r31 2)) - w64 (asI (cellOf r31 0) * asI (cellOf r33 2)))),
  DV.int (w64 (asI (cellOf r31 2) * asI (cellOf r33 2)))]) fun r35 =>
            (bif isRes [{ ag := true, css := [CS.int, CS.int] }] r35 then
            bindC (ih.call 85 [DV.int (w64 (w64 (asI (cellOf r33 1) * asI (cellOf r31 2)) - w64 (asI (cellOf r31 1) * asI (cellOf r33 2)))),
  DV.int (w64 (asI (cellOf r31 2) * asI (cellOf r33 2)))]) fun r37 =>
            (bif isRes [{ ag := true, css := [CS.int, CS.int] }] r37 then
            some (DV.tup
  [DV.agg
      [DV.int (asI (cellOf r35 0)), DV.int (asI (cellOf r35 1)), DV.int (asI (cellOf r37 0)),
        DV.int (asI (cellOf r37 1))],
    DV.int 0])
            else none)
            else none)
            else none)
            else none))
          else none)
        else none)
      else none)
    else none)) := by kernel_rfl
theorem e34 (ih : VIh) (l0 : List DV) : callF vt1 ih 34 [DV.list true false 1 l0] =
  (bif decide ((↑l0.length : Int) = 0) then
   some (DV.int 10)
  else (bif okR l0 0 { ag := false, css := [CS.list 1] } then
    (bif decide ((↑(asR (l0.getD 0 DV.undef)).length : Int) = 0) then
     some (DV.int 10)
    else ih.at_ 34 0 (tblL [(0, DV.list true false 1 l0), (3, DV.int 0)]) [])
   else none)) := by kernel_rfl
theorem e34_0 (ih : VIh) (l0 : List DV) (x1 : Int) : atF vt1 ih 34 0 (tblL [(0, DV.list true false 1 l0), (3, DV.int x1)]) [] =
  (bif decide (x1 < (↑l0.length : Int)) then
   (bif okR l0 x1 { ag := false, css := [CS.list 1] } then
    (bif okR l0 0 { ag := false, css := [CS.list 1] } then
     (bif !decide ((↑(asR (l0.getD x1.toNat DV.undef)).length : Int) = (↑(asR (l0.getD 0 DV.undef)).length : Int)) then
      some (DV.int 10)
     else ih.at_ 34 0 (tblL [(0, DV.list true false 1 l0), (3, DV.int (w64 (x1 + 1)))]) [])
    else none)
   else none)
  else (bif decide (10 < (↑l0.length : Int)) then
    some (DV.int 8)
   else (bif okR l0 0 { ag := false, css := [CS.list 1] } then
     (bif decide (10 < (↑(asR (l0.getD 0 DV.undef)).length : Int)) then
      some (DV.int 8)
     else ih.at_ 34 1 (tblL [(0, DV.list true false 1 l0), (4, DV.int 0), (5, DV.int 0)]) [])
    else none))) := by kernel_rfl
theorem e34_1 (ih : VIh) (l0 : List DV) (x1 : Int) (x2 : Int) : atF vt1 ih 34 1 (tblL [(0, DV.list true false 1 l0), (4, DV.int x1), (5, DV.int x2)]) [] =
  (bif decide (x2 < (↑l0.length : Int)) then
   ih.at_ 34 2 (tblL [(0, DV.list true false 1 l0), (4, DV.int x1), (5, DV.int x2), (6, DV.int 0)]) []
  else (bif decide (x1 = 0) then
    some (DV.int 11)
   else some (DV.int 0))) := by kernel_rfl
theorem e34_2 (ih : VIh) (l0 : List DV) (x1 : Int) (x2 : Int) (x3 : Int) : atF vt1 ih 34 2 (tblL [(0, DV.list true false 1 l0), (4, DV.int x1), (5, DV.int x2), (6, DV.int x3)]) [] =
  (bif okR l0 x2 { ag := false, css := [CS.list 1] } then
   (bif decide (x3 < (↑(asR (l0.getD x2.toNat DV.undef)).length : Int)) then
    (bif okR l0 x2 { ag := false, css := [CS.list 1] } then
     (bif okR (asR (l0.getD x2.toNat DV.undef)) x3 { ag := false, css := [CS.int] } then
      bindC (ih.call 50 [DV.int (asI ((asR (l0.getD x2.toNat DV.undef)).getD x3.toNat DV.undef)), DV.int 0, DV.int 255]) fun r4 =>
       (bif isRes [{ ag := false, css := [CS.bool] }] r4 then
        (bif !asB r4 then
         some (DV.int 2)
        else (bif okR l0 x2 { ag := false, css := [CS.list 1] } then
          (bif okR (asR (l0.getD x2.toNat DV.undef)) x3 { ag := false, css := [CS.int] } then
           ih.at_ 34 2 (tblL [(0, DV.list true false 1 l0), (4, DV.int (w64 (x1 + asI ((asR (l0.getD x2.toNat DV.undef)).getD x3.toNat DV.undef)))), (5, DV.int x2), (6, DV.int (w64 (x3 + 1)))]) []
          else none)
         else none))
       else none)
     else none)
    else none)
   else ih.at_ 34 1 (tblL [(0, DV.list true false 1 l0), (4, DV.int x1), (5, DV.int (w64 (x2 + 1)))]) [])
  else none) := by kernel_rfl
theorem e36 (ih : VIh) (l0 : List DV) : callF vt1 ih 36 [DV.list true false 1 l0] =
  ih.at_ 36 0 (tblL [(0, DV.list true false 1 l0), (2, DV.ptr 0 0), (3, DV.int 0), (4, DV.int 0), (5, DV.int 0), (6, DV.int 0)]) [.box [DV.int 0, DV.nils, DV.int 0, DV.nils, DV.int 0, DV.nils, DV.int 0, DV.nils]] := by kernel_rfl
theorem e36_0 (ih : VIh) (l0 : List DV) (x1 : Int) (x2 : Int) (x3 : Int) (x4 : Int) (x5 : Int) (x6 : Int) (x7 : Int) (x8 : Int) : atF vt1 ih 36 0 (tblL [(0, DV.list true false 1 l0), (2, DV.ptr 0 0), (3, DV.int x1), (4, DV.int x2), (5, DV.int x3), (6, DV.int x4)]) [VB.box [DV.int x5, DV.nils, DV.int x6, DV.nils, DV.int x7, DV.nils, DV.int x8, DV.nils]] =
  (bif decide (x4 < (↑l0.length : Int)) then
   ih.at_ 36 1 (tblL [(0, DV.list true false 1 l0), (2, DV.ptr 0 0), (3, DV.int x1), (4, DV.int x2), (5, DV.int x3), (6, DV.int x4), (7, DV.int 0)]) [.box [DV.int x5, DV.nils, DV.int x6, DV.nils, DV.int x7, DV.nils, DV.int x8, DV.nils]]
  else bindC (ih.call 54 [DV.int x1, DV.int x3]) fun r1 =>
    (bif isRes [{ ag := true, css := [CS.int, CS.list 1, CS.int, CS.list 1] }] r1 then
     bindC (ih.call 54 [DV.int x2, DV.int x3]) fun r3 =>
      (bif isRes [{ ag := true, css := [CS.int, CS.list 1, CS.int, CS.list 1] }] r3 then
       some (DV.agg
  [DV.int (asI (cellOf r1 0)), DV.list false false 1 (asR (cellOf r1 1)), DV.int (asI (cellOf r1 2)),
    DV.list false false 1 (asR (cellOf r1 3)), DV.int (asI (cellOf r3 0)), DV.list false false 1 (asR (cellOf r3 1)),
    DV.int (asI (cellOf r3 2)), DV.list false false 1 (asR (cellOf r3 3))])
      else none)
    else none)) := by kernel_rfl
theorem e36_1 (ih : VIh) (l0 : List DV) (x1 : Int) (x2 : Int) (x3 : Int) (x4 : Int) (x5 : Int) (x6 : Int) (x7 : Int) (x8 : Int) (x9 : Int) : atF vt1 ih 36 1 (tblL [(0, DV.list true false 1 l0), (2, DV.ptr 0 0), (3, DV.int x1), (4, DV.int x2), (5, DV.int x3), (6, DV.int x4), (7, DV.int x5)]) [VB.box [DV.int x6, DV.nils, DV.int x7, DV.nils, DV.int x8, DV.nils, DV.int x9, DV.nils]] =
  (bif okR l0 x4 { ag := false, css := [CS.list 1] } then
   (bif decide (x5 < (↑(asR (l0.getD x4.toNat DV.undef)).length : Int)) then
    (bif okR l0 x4 { ag := false, css := [CS.list 1] } then
     (bif okR (asR (l0.getD x4.toNat DV.undef)) x5 { ag := false, css := [CS.int] } then
      (bif okR l0 x4 { ag := false, css := [CS.list 1] } then
       (bif okR (asR (l0.getD x4.toNat DV.undef)) x5 { ag := false, css := [CS.int] } then
        (bif okR l0 x4 { ag := false, css := [CS.list 1] } then
         (bif okR (asR (l0.getD x4.toNat DV.undef)) x5 { ag := false, css := [CS.int] } then
          ih.at_ 36 1 (tblL [(0, DV.list true false 1 l0), (2, DV.ptr 0 0), (3, DV.int (w64 (x1 + w64 (x5 * asI ((asR (l0.getD x4.toNat DV.undef)).getD x5.toNat DV.undef))))), (4, DV.int (w64 (x2 + w64 (x4 * asI ((asR (l0.getD x4.toNat DV.undef)).getD x5.toNat DV.undef))))), (5, DV.int (w64 (x3 + asI ((asR (l0.getD x4.toNat DV.undef)).getD x5.toNat DV.undef)))), (6, DV.int x4), (7, DV.int (w64 (x5 + 1)))]) [.box [DV.int x6, DV.nils, DV.int x7, DV.nils, DV.int x8, DV.nils, DV.int x9, DV.nils]]
         else none)
        else none)
       else none)
      else none)
     else none)
    else none)
   else ih.at_ 36 0 (tblL [(0, DV.list true false 1 l0), (2, DV.ptr 0 0), (3, DV.int x1), (4, DV.int x2), (5, DV.int x3), (6, DV.int (w64 (x4 + 1)))]) [.box [DV.int x6, DV.nils, DV.int x7, DV.nils, DV.int x8, DV.nils, DV.int x9, DV.nils]])
  else none) := by kernel_rfl
theorem e35 (ih : VIh) (x0 : Int) (l1 : List DV) (x2 : Int) (l3 : List DV) (x4 : Int) (l5 : List DV) (x6 : Int) (l7 : List DV) : callF vt1 ih 35 [DV.agg
    [DV.int x0, DV.list false false 1 l1, DV.int x2, DV.list false false 1 l3, DV.int x4, DV.list false false 1 l5,
      DV.int x6, DV.list false false 1 l7]] =
  bindC (ih.call 55 [DV.agg [DV.int x0, DV.list false false 1 l1, DV.int x2, DV.list false false 1 l3]]) fun r0 =>
   (bif isRes [{ ag := true, css := [CS.int, CS.int] }, { ag := false, css := [CS.bool] }] r0 then
    bindC (ih.call 55 [DV.agg [DV.int x4, DV.list false false 1 l5, DV.int x6, DV.list false false 1 l7]]) fun r2 =>
     (bif isRes [{ ag := true, css := [CS.int, CS.int] }, { ag := false, css := [CS.bool] }] r2 then
      some (DV.agg
  [DV.int (asI (cellOf ((tupL r0).getD 0 DV.undef) 0)), DV.int (asI (cellOf ((tupL r0).getD 0 DV.undef) 1)),
    DV.int (asI (cellOf ((tupL r2).getD 0 DV.undef) 0)), DV.int (asI (cellOf ((tupL r2).getD 0 DV.undef) 1))])
     else none)
   else none) := by kernel_rfl
theorem e37 (ih : VIh) (l0 : List DV) (l1 : List DV) : callF vt1 ih 37 [DV.list true false 1 l0, DV.list true false 1 l1] =
  bindC (ih.call 34 [DV.list true false 1 l0]) fun r0 =>
   (bif isRes [{ ag := false, css := [CS.int] }] r0 then
    (bif !decide (asI r0 = 0) then
     some (DV.int (asI r0))
    else bindC (ih.call 34 [DV.list true false 1 l1]) fun r3 =>
      (bif isRes [{ ag := false, css := [CS.int] }] r3 then
       (bif !decide (asI r3 = 0) then
        some (DV.int (asI r3))
       else (bif !decide ((↑l0.length : Int) = (↑l1.length : Int)) then
         some (DV.int 13)
        else (bif okR l0 0 { ag := false, css := [CS.list 1] } then
          (bif okR l1 0 { ag := false, css := [CS.list 1] } then
           (bif !decide ((↑(asR (l0.getD 0 DV.undef)).length : Int) = (↑(asR (l1.getD 0 DV.undef)).length : Int)) then
            some (DV.int 13)
           else some (DV.int 0))
          else none)
         else none)))
      else none))
   else none) := by kernel_rfl
theorem e38 (ih : VIh) (l0 : List DV) (l1 : List DV) : callF vt1 ih 38 [DV.list true false 1 l0, DV.list true false 1 l1] =
  bindC (ih.call 36 [DV.list true false 1 l0]) fun r0 =>
   (bif isRes [{ ag := true, css := [CS.int, CS.list 1, CS.int, CS.list 1, CS.int, CS.list 1, CS.int, CS.list 1] }] r0 then
    bindC (ih.call 36 [DV.list true false 1 l1]) fun r2 =>
     (bif isRes [{ ag := true, css := [CS.int, CS.list 1, CS.int, CS.list 1, CS.int, CS.list 1, CS.int, CS.list 1] }] r2 then
      bindC (ih.call 65 [DV.agg
    [DV.int (asI (cellOf r2 0)), DV.list false false 1 (asR (cellOf r2 1)), DV.int (asI (cellOf r2 2)),
      DV.list false false 1 (asR (cellOf r2 3))],
  DV.agg
    [DV.int (asI (cellOf r0 0)), DV.list false false 1 (asR (cellOf r0 1)), DV.int (asI (cellOf r0 2)),
      DV.list false false 1 (asR (cellOf r0 3))]]) fun r4 =>
       (bif isRes [{ ag := true, css := [CS.int, CS.list 1, CS.int, CS.list 1] }] r4 then
        bindC (ih.call 65 [DV.agg
    [DV.int (asI (cellOf r2 4)), DV.list false false 1 (asR (cellOf r2 5)), DV.int (asI (cellOf r2 6)),
      DV.list false false 1 (asR (cellOf r2 7))],
  DV.agg
    [DV.int (asI (cellOf r0 4)), DV.list false false 1 (asR (cellOf r0 5)), DV.int (asI (cellOf r0 6)),
      DV.list false false 1 (asR (cellOf r0 7))]]) fun r6 =>
         (bif isRes [{ ag := true, css := [CS.int, CS.list 1, CS.int, CS.list 1] }] r6 then
          bindC (ih.call 35 [DV.agg
    [DV.int (asI (cellOf r4 0)), DV.list false false 1 (asR (cellOf r4 1)), DV.int (asI (cellOf r4 2)),
      DV.list false false 1 (asR (cellOf r4 3)), DV.int (asI (cellOf r6 0)), DV.list false false 1 (asR (cellOf r6 1)),
      DV.int (asI (cellOf r6 2)), DV.list false false 1 (asR (cellOf r6 3))]]) fun r8 =>
           (bif isRes [{ ag := true, css := [CS.int, CS.int, CS.int, CS.int] }] r8 then
            some (DV.agg [DV.int (asI (cellOf r8 0)), DV.int (asI (cellOf r8 1)), DV.int (asI (cellOf r8 2)), DV.int (asI (cellOf r8 3))])
           else none)
         else none)
       else none)
     else none)
   else none) := by kernel_rfl
theorem e30 (ih : VIh) (l0 : List DV) : callF vt1 ih 30 [DV.list true false 1 l0] =
  ih.at_ 30 0 (tblL [(0, DV.list true false 1 l0), (3, DV.int 0)]) [] := by kernel_rfl
theorem e30_0 (ih : VIh) (l0 : List DV) (x1 : Int) : atF vt1 ih 30 0 (tblL [(0, DV.list true false 1 l0), (3, DV.int x1)]) [] =
  (bif decide (x1 < (↑l0.length : Int)) then
   (bif okR l0 x1 { ag := false, css := [CS.list 1] } then
    (bif decide (12 < (↑(asR (l0.getD x1.toNat DV.undef)).length : Int)) then
     some (DV.bool false)
    else ih.at_ 30 0 (tblL [(0, DV.list true false 1 l0), (3, DV.int (w64 (x1 + 1)))]) [])
   else none)
  else some (DV.bool (decide ((↑l0.length : Int) ≤ 12)))) := by kernel_rfl
theorem e32 (ih : VIh) (l0 : List DV) : callF vt1 ih 32 [DV.list true false 1 l0] =
  ih.at_ 32 0 (tblL [(0, DV.list true false 1 l0), (3, DV.nils), (4, DV.int 0)]) [] := by kernel_rfl
theorem e32_0 (ih : VIh) (l0 : List DV) (x1 : Int) : atF vt1 ih 32 0 (tblL [(0, DV.list true false 1 l0), (3, DV.nils), (4, DV.int x1)]) [] =
  (bif decide (x1 < (↑l0.length : Int)) then
   (bif okR l0 x1 { ag := false, css := [CS.list 1] } then
    bindC (ih.call 17 [DV.list true false 1 (asR (l0.getD x1.toNat DV.undef))]) fun r2 =>
     (bif isRes [{ ag := false, css := [CS.list 1] }] r2 then
      ih.at_ 32 0 (tblL [(0, DV.list true false 1 l0), (3, DV.own 0), (4, DV.int (w64 (x1 + 1)))]) [.row true 1 ([DV.list false false 1 (asR r2)])]
     else none)
   else none)
  else some (DV.list false false 1 [])) := by kernel_rfl
theorem e32_0_1 (ih : VIh) (l0 : List DV) (x1 : Int) (l2 : List DV) : atF vt1 ih 32 0 (tblL [(0, DV.list true false 1 l0), (3, DV.own 0), (4, DV.int x1)]) [VB.row true 1 l2] =
  (bif decide (x1 < (↑l0.length : Int)) then
   (bif okR l0 x1 { ag := false, css := [CS.list 1] } then
    bindC (ih.call 17 [DV.list true false 1 (asR (l0.getD x1.toNat DV.undef))]) fun r2 =>
     (bif isRes [{ ag := false, css := [CS.list 1] }] r2 then
      (bif lenOk l2 [DV.list false false 1 (asR r2)] then
       ih.at_ 32 0 (tblL [(0, DV.list true false 1 l0), (3, DV.own 0), (4, DV.int (w64 (x1 + 1)))]) [.row true 1 (l2 ++ [DV.list false false 1 (asR r2)])]
      else none)
     else none)
   else none)
  else some (DV.list false false 1 l2)) := by kernel_rfl
theorem e5 (ih : VIh) (l0 : List DV) (l1 : List DV) : callF vt1 ih 5 [DV.list true false 1 l0, DV.list true false 1 l1] =
  bindC (ih.call 29 []) fun r0 =>
   (bif isRes [{ ag := false, css := [CS.bool] }] r0 then
    (bif !asB r0 then
     some (DV.bool false)
    else bindC (ih.call 30 [DV.list true false 1 l0]) fun r3 =>
      (bif isRes [{ ag := false, css := [CS.bool] }] r3 then
       (bif !asB r3 then
        some (DV.bool true)
       else bindC (ih.call 30 [DV.list true false 1 l1]) fun r6 =>
         (bif isRes [{ ag := false, css := [CS.bool] }] r6 then
          (bif !asB r6 then
           some (DV.bool true)
          else bindC (ih.call 32 [DV.list true false 1 l0]) fun r9 =>
            (bif isRes [{ ag := false, css := [CS.list 1] }] r9 then
            bindC (ih.call 31 [DV.list true false 1 (asR r9)]) fun r11 =>
            (bif isRes [{ ag := true, css := [CS.int, CS.int, CS.int, CS.int] }, { ag := false, css := [CS.int] }] r11 then
            bindC (ih.call 32 [DV.list true false 1 l0]) fun r13 =>
            (bif isRes [{ ag := false, css := [CS.list 1] }] r13 then
            bindC (ih.call 32 [DV.list true false 1 l1]) fun r15 =>
            (bif isRes [{ ag := false, css := [CS.list 1] }] r15 then
            bindC (ih.call 33 [DV.list true false 1 (asR r13), DV.list true false 1 (asR r15)]) fun r17 =>
            (bif isRes [{ ag := true, css := [CS.int, CS.int, CS.int, CS.int] }, { ag := false, css := [CS.int] }] r17 then
            bindC (ih.call 34 [DV.list true false 1 l0]) fun r19 =>
            (bif isRes [{ ag := false, css := [CS.int] }] r19 then
            (bif !decide (asI ((tupL r11).getD 1 DV.undef) = asI r19) then
            some (DV.bool false)
            else (bif !decide (asI r19 = 0) then
            (bif !(decide (asI (cellOf ((tupL r11).getD 0 DV.undef) 0) = 0) &&
    (decide (asI (cellOf ((tupL r11).getD 0 DV.undef) 1) = 0) &&
      (decide (asI (cellOf ((tupL r11).getD 0 DV.undef) 2) = 0) &&
        decide (asI (cellOf ((tupL r11).getD 0 DV.undef) 3) = 0)))) then
            some (DV.bool false)
            else (bif decide (asI r19 = 0) then
            bindC (ih.call 36 [DV.list true false 1 l0]) fun r25 =>
            (bif isRes [{ ag := true, css := [CS.int, CS.list 1, CS.int, CS.list 1, CS.int, CS.list 1, CS.int, CS.list 1] }] r25 then
            bindC (ih.call 35 [DV.agg
    [DV.int (asI (cellOf r25 0)), DV.list false false 1 (asR (cellOf r25 1)), DV.int (asI (cellOf r25 2)),
      DV.list false false 1 (asR (cellOf r25 3)), DV.int (asI (cellOf r25 4)),
      DV.list false false 1 (asR (cellOf r25 5)), DV.int (asI (cellOf r25 6)),
      DV.list false false 1 (asR (cellOf r25 7))]]) fun r27 =>
            (bif isRes [{ ag := true, css := [CS.int, CS.int, CS.int, CS.int] }] r27 then
            (bif !(decide (asI (cellOf ((tupL r11).getD 0 DV.undef) 0) = asI (cellOf r27 0)) &&
    (decide (asI (cellOf ((tupL r11).getD 0 DV.undef) 1) = asI (cellOf r27 1)) &&
      (decide (asI (cellOf ((tupL r11).getD 0 DV.undef) 2) = asI (cellOf r27 2)) &&
        decide (asI (cellOf ((tupL r11).getD 0 DV.undef) 3) = asI (cellOf r27 3))))) then
            some (DV.bool false)
            else bindC (ih.call 37 [DV.list true false 1 l0, DV.list true false 1 l1]) fun r30 =>
            (bif isRes [{ ag := false, css := [CS.int] }] r30 then
            (bif !decide (asI r30 = 0) then
            (bif decide (asI ((tupL r17).getD 1 DV.undef) = asI r30) then
            some (DV.bool
  (decide (asI (cellOf ((tupL r17).getD 0 DV.undef) 0) = 0) &&
    (decide (asI (cellOf ((tupL r17).getD 0 DV.undef) 1) = 0) &&
      (decide (asI (cellOf ((tupL r17).getD 0 DV.undef) 2) = 0) &&
        decide (asI (cellOf ((tupL r17).getD 0 DV.undef) 3) = 0)))))
            else some (DV.bool false))
            else (bif decide (asI ((tupL r17).getD 1 DV.undef) = 0) then
            bindC (ih.call 38 [DV.list true false 1 l0, DV.list true false 1 l1]) fun r35 =>
            (bif isRes [{ ag := true, css := [CS.int, CS.int, CS.int, CS.int] }] r35 then
            some (DV.bool
  (decide (asI (cellOf ((tupL r17).getD 0 DV.undef) 0) = asI (cellOf r35 0)) &&
    (decide (asI (cellOf ((tupL r17).getD 0 DV.undef) 1) = asI (cellOf r35 1)) &&
      (decide (asI (cellOf ((tupL r17).getD 0 DV.undef) 2) = asI (cellOf r35 2)) &&
        decide (asI (cellOf ((tupL r17).getD 0 DV.undef) 3) = asI (cellOf r35 3))))))
            else none)
            else some (DV.bool false)))
            else none))
            else none)
            else none)
            else bindC (ih.call 37 [DV.list true false 1 l0, DV.list true false 1 l1]) fun r37 =>
            (bif isRes [{ ag := false, css := [CS.int] }] r37 then
            (bif !decide (asI r37 = 0) then
            (bif decide (asI ((tupL r17).getD 1 DV.undef) = asI r37) then
            some (DV.bool
  (decide (asI (cellOf ((tupL r17).getD 0 DV.undef) 0) = 0) &&
    (decide (asI (cellOf ((tupL r17).getD 0 DV.undef) 1) = 0) &&
      (decide (asI (cellOf ((tupL r17).getD 0 DV.undef) 2) = 0) &&
        decide (asI (cellOf ((tupL r17).getD 0 DV.undef) 3) = 0)))))
            else some (DV.bool false))
            else (bif decide (asI ((tupL r17).getD 1 DV.undef) = 0) then
            bindC (ih.call 38 [DV.list true false 1 l0, DV.list true false 1 l1]) fun r42 =>
            (bif isRes [{ ag := true, css := [CS.int, CS.int, CS.int, CS.int] }] r42 then
            some (DV.bool
  (decide (asI (cellOf ((tupL r17).getD 0 DV.undef) 0) = asI (cellOf r42 0)) &&
    (decide (asI (cellOf ((tupL r17).getD 0 DV.undef) 1) = asI (cellOf r42 1)) &&
      (decide (asI (cellOf ((tupL r17).getD 0 DV.undef) 2) = asI (cellOf r42 2)) &&
        decide (asI (cellOf ((tupL r17).getD 0 DV.undef) 3) = asI (cellOf r42 3))))))
            else none)
            else some (DV.bool false)))
            else none)))
            else (bif decide (asI r19 = 0) then
            bindC (ih.call 36 [DV.list true false 1 l0]) fun r45 =>
            (bif isRes [{ ag := true, css := [CS.int, CS.list 1, CS.int, CS.list 1, CS.int, CS.list 1, CS.int, CS.list 1] }] r45 then
            bindC (ih.call 35 [DV.agg
    [DV.int (asI (cellOf r45 0)), DV.list false false 1 (asR (cellOf r45 1)), DV.int (asI (cellOf r45 2)),
      DV.list false false 1 (asR (cellOf r45 3)), DV.int (asI (cellOf r45 4)),
      DV.list false false 1 (asR (cellOf r45 5)), DV.int (asI (cellOf r45 6)),
      DV.list false false 1 (asR (cellOf r45 7))]]) fun r47 =>
            (bif isRes [{ ag := true, css := [CS.int, CS.int, CS.int, CS.int] }] r47 then
            (bif !(decide (asI (cellOf ((tupL r11).getD 0 DV.undef) 0) = asI (cellOf r47 0)) &&
    (decide (asI (cellOf ((tupL r11).getD 0 DV.undef) 1) = asI (cellOf r47 1)) &&
      (decide (asI (cellOf ((tupL r11).getD 0 DV.undef) 2) = asI (cellOf r47 2)) &&
        decide (asI (cellOf ((tupL r11).getD 0 DV.undef) 3) = asI (cellOf r47 3))))) then
            some (DV.bool false)
            else bindC (ih.call 37 [DV.list true false 1 l0, DV.list true false 1 l1]) fun r50 =>
            (bif isRes [{ ag := false, css := [CS.int] }] r50 then
            (bif !decide (asI r50 = 0) then
            (bif decide (asI ((tupL r17).getD 1 DV.undef) = asI r50) then
            some (DV.bool
  (decide (asI (cellOf ((tupL r17).getD 0 DV.undef) 0) = 0) &&
    (decide (asI (cellOf ((tupL r17).getD 0 DV.undef) 1) = 0) &&
      (decide (asI (cellOf ((tupL r17).getD 0 DV.undef) 2) = 0) &&
        decide (asI (cellOf ((tupL r17).getD 0 DV.undef) 3) = 0)))))
            else some (DV.bool false))
            else (bif decide (asI ((tupL r17).getD 1 DV.undef) = 0) then
            bindC (ih.call 38 [DV.list true false 1 l0, DV.list true false 1 l1]) fun r55 =>
            (bif isRes [{ ag := true, css := [CS.int, CS.int, CS.int, CS.int] }] r55 then
            some (DV.bool
  (decide (asI (cellOf ((tupL r17).getD 0 DV.undef) 0) = asI (cellOf r55 0)) &&
    (decide (asI (cellOf ((tupL r17).getD 0 DV.undef) 1) = asI (cellOf r55 1)) &&
      (decide (asI (cellOf ((tupL r17).getD 0 DV.undef) 2) = asI (cellOf r55 2)) &&
        decide (asI (cellOf ((tupL r17).getD 0 DV.undef) 3) = asI (cellOf r55 3))))))
            else none)
            else some (DV.bool false)))
            else none))
            else none)
            else none)
            else bindC (ih.call 37 [DV.list true false 1 l0, DV.list true false 1 l1]) fun r57 =>
            (bif isRes [{ ag := false, css := [CS.int] }] r57 then
            (bif !decide (asI r57 = 0) then
            (bif decide (asI ((tupL r17).getD 1 DV.undef) = asI r57) then
            some (DV.bool
  (decide (asI (cellOf ((tupL r17).getD 0 DV.undef) 0) = 0) &&
    (decide (asI (cellOf ((tupL r17).getD 0 DV.undef) 1) = 0) &&
      (decide (asI (cellOf ((tupL r17).getD 0 DV.undef) 2) = 0) &&
        decide (asI (cellOf ((tupL r17).getD 0 DV.undef) 3) = 0)))))
            else some (DV.bool false))
            else (bif decide (asI ((tupL r17).getD 1 DV.undef) = 0) then
            bindC (ih.call 38 [DV.list true false 1 l0, DV.list true false 1 l1]) fun r62 =>
            (bif isRes [{ ag := true, css := [CS.int, CS.int, CS.int, CS.int] }] r62 then
            some (DV.bool
  (decide (asI (cellOf ((tupL r17).getD 0 DV.undef) 0) = asI (cellOf r62 0)) &&
    (decide (asI (cellOf ((tupL r17).getD 0 DV.undef) 1) = asI (cellOf r62 1)) &&
      (decide (asI (cellOf ((tupL r17).getD 0 DV.undef) 2) = asI (cellOf r62 2)) &&
        decide (asI (cellOf ((tupL r17).getD 0 DV.undef) 3) = asI (cellOf r62 3))))))
            else none)
            else some (DV.bool false)))
            else none))))
            else none)
            else none)
            else none)
            else none)
            else none)
            else none))
         else none))
      else none))
   else none) := by kernel_rfl
theorem e122 (ih : VIh) (l0 : List DV) (x1 : Int) : callF vt1 ih 122 [DV.list true false 1 l0, DV.fbp true [DV.int x1] 0] =
  some (DV.bool !decide ((↑l0.length : Int) = x1)) := by kernel_rfl
theorem e121 (ih : VIh) (l0 : List DV) (x1 : Int) : callF vt1 ih 121 [DV.list true false 1 l0, DV.func 122 [] [DV.fbp true [DV.int x1] 0]] =
  bindC (ih.call 150 [DV.list true false 1 l0, DV.func 122 [] [DV.fbp true [DV.int x1] 0]]) fun r0 =>
   (bif isRes [{ ag := false, css := [CS.int] }] r0 then
    some (DV.bool (decide (0 ≤ asI r0)))
   else none) := by kernel_rfl
theorem e150 (ih : VIh) (l0 : List DV) (x1 : Int) : callF vt1 ih 150 [DV.list true false 1 l0, DV.func 122 [] [DV.fbp true [DV.int x1] 0]] =
  ih.at_ 150 0 (tblL [(0, DV.list true false 1 l0), (1, DV.func 122 [] [DV.fbp true [DV.int x1] 0]), (7, DV.int (↑l0.length : Int)), (8, DV.int 0)]) [] := by kernel_rfl
theorem e150_0 (ih : VIh) (l0 : List DV) (x1 : Int) (x2 : Int) (x3 : Int) : atF vt1 ih 150 0 (tblL [(0, DV.list true false 1 l0), (1, DV.func 122 [] [DV.fbp true [DV.int x1] 0]), (7, DV.int x2), (8, DV.int x3)]) [] =
  (bif decide (x3 < x2) then
   (bif okR l0 x3 { ag := false, css := [CS.list 1] } then
    bindC (ih.call 122 [DV.list true false 1 (asR (l0.getD x3.toNat DV.undef)), DV.fbp true [DV.int x1] 0]) fun r2 =>
     (bif isRes [{ ag := false, css := [CS.bool] }] r2 then
      (bif asB r2 then
       some (DV.int x3)
      else ih.at_ 150 0 (tblL [(0, DV.list true false 1 l0), (1, DV.func 122 [] [DV.fbp true [DV.int x1] 0]), (7, DV.int x2), (8, DV.int (w64 (x3 + 1)))]) [])
     else none)
   else none)
  else some (DV.int (-1))) := by kernel_rfl
theorem e56_123 (ih : VIh) (l0 : List DV) : callF vt1 ih 56 [DV.list true false 1 l0, DV.func 123 [] []] =
  bindC (ih.call 101 [DV.list true false 1 l0, DV.func 123 [] []]) fun r0 =>
   (bif isRes [{ ag := false, css := [CS.int] }] r0 then
    some (DV.bool (decide (0 ≤ asI r0)))
   else none) := by kernel_rfl
theorem e101_123 (ih : VIh) (l0 : List DV) : callF vt1 ih 101 [DV.list true false 1 l0, DV.func 123 [] []] =
  ih.at_ 101 0 (tblL [(0, DV.list true false 1 l0), (1, DV.func 123 [] []), (7, DV.int (↑l0.length : Int)), (8, DV.int 0)]) [] := by kernel_rfl
theorem e101_123_0 (ih : VIh) (l0 : List DV) (x1 : Int) (x2 : Int) : atF vt1 ih 101 0 (tblL [(0, DV.list true false 1 l0), (1, DV.func 123 [] []), (7, DV.int x1), (8, DV.int x2)]) [] =
  (bif decide (x2 < x1) then
   (bif okR l0 x2 { ag := false, css := [CS.int] } then
    bindC (ih.call 123 [DV.int (asI (l0.getD x2.toNat DV.undef))]) fun r2 =>
     (bif isRes [{ ag := false, css := [CS.bool] }] r2 then
      (bif asB r2 then
       some (DV.int x2)
      else ih.at_ 101 0 (tblL [(0, DV.list true false 1 l0), (1, DV.func 123 [] []), (7, DV.int x1), (8, DV.int (w64 (x2 + 1)))]) [])
     else none)
   else none)
  else some (DV.int (-1))) := by kernel_rfl
theorem e56_124 (ih : VIh) (l0 : List DV) : callF vt1 ih 56 [DV.list true false 1 l0, DV.func 124 [] []] =
  bindC (ih.call 101 [DV.list true false 1 l0, DV.func 124 [] []]) fun r0 =>
   (bif isRes [{ ag := false, css := [CS.int] }] r0 then
    some (DV.bool (decide (0 ≤ asI r0)))
   else none) := by kernel_rfl
theorem e101_124 (ih : VIh) (l0 : List DV) : callF vt1 ih 101 [DV.list true false 1 l0, DV.func 124 [] []] =
  ih.at_ 101 0 (tblL [(0, DV.list true false 1 l0), (1, DV.func 124 [] []), (7, DV.int (↑l0.length : Int)), (8, DV.int 0)]) [] := by kernel_rfl
theorem e101_124_0 (ih : VIh) (l0 : List DV) (x1 : Int) (x2 : Int) : atF vt1 ih 101 0 (tblL [(0, DV.list true false 1 l0), (1, DV.func 124 [] []), (7, DV.int x1), (8, DV.int x2)]) [] =
  (bif decide (x2 < x1) then
   (bif okR l0 x2 { ag := false, css := [CS.int] } then
    bindC (ih.call 124 [DV.int (asI (l0.getD x2.toNat DV.undef))]) fun r2 =>
     (bif isRes [{ ag := false, css := [CS.bool] }] r2 then
      (bif asB r2 then
       some (DV.int x2)
      else ih.at_ 101 0 (tblL [(0, DV.list true false 1 l0), (1, DV.func 124 [] []), (7, DV.int x1), (8, DV.int (w64 (x2 + 1)))]) [])
     else none)
   else none)
  else some (DV.int (-1))) := by kernel_rfl
end Go.Proofs
/- Equations of V for functions of the program: written by a program of this session (NF, NFg, gq). -/
namespace Go.Proofs
open Go Go.Sx Go.Vx
set_option maxRecDepth 100000
set_option maxHeartbeats 0
theorem e7 (ih : VIh) (l0 : List DV) (l1 : List DV) : callF vt1 ih 7 [DV.agg [DV.list true false 1 l0, DV.list true false 1 l1]] =
  (bif decide ((↑l0.length : Int) ≤ 6) then
   some (DV.bool (decide ((↑l1.length : Int) ≤ 6)))
  else some (DV.bool false)) := by kernel_rfl
theorem e9 (ih : VIh) (l0 : List DV) (l1 : List DV) : callF vt1 ih 9 [DV.agg [DV.list true false 1 l0, DV.list true false 1 l1]] =
  bindC (ih.call 17 [DV.list true false 1 l0]) fun r0 =>
   (bif isRes [{ ag := false, css := [CS.list 1] }] r0 then
    bindC (ih.call 17 [DV.list true false 1 l1]) fun r2 =>
     (bif isRes [{ ag := false, css := [CS.list 1] }] r2 then
      some (DV.agg [DV.list false false 1 (asR r0), DV.list false false 1 (asR r2)])
     else none)
   else none) := by kernel_rfl
theorem e8 (ih : VIh) (l0 : List DV) (l1 : List DV) : callF vt1 ih 8 [DV.agg [DV.list true false 1 l0, DV.list true false 1 l1]] =
  (bif decide (0 < (↑l0.length : Int)) then
   bindC (ih.call 45 [DV.bool (decide ((↑l1.length : Int) = (↑l0.length : Int))), DV.int 10]) fun r1 =>
    (bif isRes [{ ag := false, css := [CS.int] }] r1 then
     bindC (ih.call 45 [DV.bool (decide ((↑l0.length : Int) ≤ 4)), DV.int 8]) fun r3 =>
      (bif isRes [{ ag := false, css := [CS.int] }] r3 then
       bindC (ih.call 44 [DV.list true false 1 [DV.int (asI r1), DV.int (asI r3)]]) fun r5 =>
        (bif isRes [{ ag := false, css := [CS.int] }] r5 then
         (bif !decide (asI r5 = 0) then
          some (DV.tup [DV.int 0, DV.int (asI r5)])
         else ih.at_ 8 0 (tblL [(1, DV.ptr 0 0), (32, DV.list true false 1 l0), (33, DV.int (↑l0.length : Int)), (34, DV.int 0)]) [.box [DV.list true false 1 l0, DV.list true false 1 l1]])
        else none)
      else none)
    else none)
  else bindC (ih.call 45 [DV.bool false, DV.int 10]) fun r8 =>
    (bif isRes [{ ag := false, css := [CS.int] }] r8 then
     bindC (ih.call 45 [DV.bool (decide ((↑l0.length : Int) ≤ 4)), DV.int 8]) fun r10 =>
      (bif isRes [{ ag := false, css := [CS.int] }] r10 then
       bindC (ih.call 44 [DV.list true false 1 [DV.int (asI r8), DV.int (asI r10)]]) fun r12 =>
        (bif isRes [{ ag := false, css := [CS.int] }] r12 then
         (bif !decide (asI r12 = 0) then
          some (DV.tup [DV.int 0, DV.int (asI r12)])
         else ih.at_ 8 0 (tblL [(1, DV.ptr 0 0), (32, DV.list true false 1 l0), (33, DV.int (↑l0.length : Int)), (34, DV.int 0)]) [.box [DV.list true false 1 l0, DV.list true false 1 l1]])
        else none)
      else none)
    else none)) := by kernel_rfl
theorem e8_0 (ih : VIh) (l0 : List DV) (x1 : Int) (x2 : Int) (l3 : List DV) (l4 : List DV) : atF vt1 ih 8 0 (tblL [(1, DV.ptr 0 0), (32, DV.list true false 1 l0), (33, DV.int x1), (34, DV.int x2)]) [VB.box [DV.list true false 1 l3, DV.list true false 1 l4]] =
  (bif decide (x2 < x1) then
   (bif okR l0 x2 { ag := false, css := [CS.int] } then
    bindC (ih.call 46 [DV.int (asI (l0.getD x2.toNat DV.undef)), DV.int 1, DV.int 10]) fun r2 =>
     (bif isRes [{ ag := false, css := [CS.bool] }] r2 then
      (bif !asB r2 then
       some (DV.tup [DV.int x2, DV.int 2])
      else (bif okR l4 x2 { ag := false, css := [CS.int] } then
        bindC (ih.call 46 [DV.int (asI (l4.getD x2.toNat DV.undef)), DV.int 1, DV.int 20]) fun r6 =>
         (bif isRes [{ ag := false, css := [CS.bool] }] r6 then
          (bif !asB r6 then
           some (DV.tup [DV.int x2, DV.int 2])
          else ih.at_ 8 0 (tblL [(1, DV.ptr 0 0), (32, DV.list true false 1 l0), (33, DV.int x1), (34, DV.int (w64 (x2 + 1)))]) [.box [DV.list true false 1 l3, DV.list true false 1 l4]])
         else none)
       else none))
     else none)
   else none)
  else some (DV.tup [DV.int 0, DV.int 0])) := by kernel_rfl
theorem e45 (ih : VIh) (b0 : Bool) (x1 : Int) : callF vt1 ih 45 [DV.bool b0, DV.int x1] =
  (bif b0 then
   some (DV.int 0)
  else some (DV.int x1)) := by kernel_rfl
theorem e44 (ih : VIh) (l0 : List DV) : callF vt1 ih 44 [DV.list true false 1 l0] =
  ih.at_ 44 0 (tblL [(5, DV.list true false 1 l0), (6, DV.int (↑l0.length : Int)), (7, DV.int 0)]) [] := by kernel_rfl
theorem e44_0 (ih : VIh) (l0 : List DV) (x1 : Int) (x2 : Int) : atF vt1 ih 44 0 (tblL [(5, DV.list true false 1 l0), (6, DV.int x1), (7, DV.int x2)]) [] =
  (bif decide (x2 < x1) then
   (bif okR l0 x2 { ag := false, css := [CS.int] } then
    (bif !decide (asI (l0.getD x2.toNat DV.undef) = 0) then
     some (DV.int (asI (l0.getD x2.toNat DV.undef)))
    else ih.at_ 44 0 (tblL [(5, DV.list true false 1 l0), (6, DV.int x1), (7, DV.int (w64 (x2 + 1)))]) [])
   else none)
  else some (DV.int 0)) := by kernel_rfl
theorem e46 (ih : VIh) (x0 : Int) (x1 : Int) (x2 : Int) : callF vt1 ih 46 [DV.int x0, DV.int x1, DV.int x2] =
  (bif decide (x1 ≤ x0) then
   some (DV.bool (decide (x0 ≤ x2)))
  else some (DV.bool false)) := by kernel_rfl
theorem e10 (ih : VIh) (l0 : List DV) (l1 : List DV) : callF vt1 ih 10 [DV.agg [DV.list false false 1 l0, DV.list false false 1 l1]] =
  bindC (ih.call 47 [DV.agg [DV.list false false 1 l0, DV.list false false 1 l1]]) fun r0 =>
   (bif isRes [{ ag := true, css := [CS.list 1, CS.list 1] }, { ag := false, css := [CS.int] }] r0 then
    (bif !decide (asI ((tupL r0).getD 1 DV.undef) = 0) then
     some (DV.tup [DV.list false false 1 [], DV.int (asI ((tupL r0).getD 1 DV.undef))])
    else ih.at_ 10 0 (tblL [(4, DV.ptr 0 0), (6, DV.own 1), (7, DV.own 2), (26, DV.list false false 1 (asR (cellOf ((tupL r0).getD 0 DV.undef) 1))), (27, DV.int (↑(asR (cellOf ((tupL r0).getD 0 DV.undef) 1)).length : Int)), (28, DV.int 0)]) [.box [DV.list false false 1 (asR (cellOf ((tupL r0).getD 0 DV.undef) 0)),
  DV.list false false 1 (asR (cellOf ((tupL r0).getD 0 DV.undef) 1))], .row false 1 ([DV.int 0]), .row false 1 ([DV.int 1])])
   else none) := by kernel_rfl
theorem e10_0 (ih : VIh) (l0 : List DV) (x1 : Int) (x2 : Int) (l3 : List DV) (l4 : List DV) (l5 : List DV) (l6 : List DV) : atF vt1 ih 10 0 (tblL [(4, DV.ptr 0 0), (6, DV.own 1), (7, DV.own 2), (26, DV.list false false 1 l0), (27, DV.int x1), (28, DV.int x2)]) [VB.box [DV.list false false 1 l3, DV.list false false 1 l4], VB.row false 1 l5, VB.row false 1 l6] =
  (bif decide (x2 < x1) then
   (bif okR l0 x2 { ag := false, css := [CS.int] } then
    (bif decide (0 ≤ w64 ((↑l6.length : Int) + 1)) && decide (w64 ((↑l6.length : Int) + 1) = w64 ((↑l6.length : Int) + 1)) &&
  decide (w64 ((↑l6.length : Int) + 1) ≤ 1048576) then
     ih.at_ 10 1 (tblL [(4, DV.ptr 0 0), (6, DV.own 1), (7, DV.own 2), (8, DV.int x2), (9, DV.int (asI (l0.getD x2.toNat DV.undef))), (10, DV.own 3), (26, DV.list false false 1 l0), (27, DV.int x1), (28, DV.int x2), (37, DV.own 2), (38, DV.int (↑l6.length : Int)), (39, DV.int 0)]) [.box [DV.list false false 1 l3, DV.list false false 1 l4], .row false 1 (l5), .row false 1 (l6), .row false 1 (List.replicate (w64 ((↑l6.length : Int) + 1)).toNat (DV.int 0))]
    else none)
   else none)
  else some (DV.tup [DV.list false false 1 l6, DV.int 0])) := by kernel_rfl
theorem e10_1 (ih : VIh) (x0 : Int) (x1 : Int) (l2 : List DV) (x3 : Int) (x4 : Int) (x5 : Int) (x6 : Int) (l7 : List DV) (l8 : List DV) (l9 : List DV) (l10 : List DV) (l11 : List DV) : atF vt1 ih 10 1 (tblL [(4, DV.ptr 0 0), (6, DV.own 1), (7, DV.own 2), (8, DV.int x0), (9, DV.int x1), (10, DV.own 3), (26, DV.list false false 1 l2), (27, DV.int x3), (28, DV.int x4), (37, DV.own 2), (38, DV.int x5), (39, DV.int x6)]) [VB.box [DV.list false false 1 l7, DV.list false false 1 l8], VB.row false 1 l9, VB.row false 1 l10, VB.row false 1 l11] =
  (bif decide (x6 < x5) then
   (bif inR x6 l10 then
    (bif isRow { ag := false, css := [CS.int] } (l10.getD x6.toNat DV.undef) then
     (bif inR x6 l11 then
      (bif isRow { ag := false, css := [CS.int] } (l11.getD x6.toNat DV.undef) then
       bindC (ih.call 48 [DV.agg [DV.list true false 1 l7, DV.list true false 1 l8], DV.int x0]) fun r5 =>
        (bif isRes [{ ag := false, css := [CS.int] }] r5 then
         (bif inR x6 l11 then
          (bif inR (w64 (x6 + 1))
  (l11.set x6.toNat
    (DV.int (w64 (asI (l11.getD x6.toNat DV.undef) + w64 (w64 (x1 + asI r5) * asI (l10.getD x6.toNat DV.undef)))))) then
           (bif isRow { ag := false, css := [CS.int] }
  ((l11.set x6.toNat
        (DV.int
          (w64 (asI (l11.getD x6.toNat DV.undef) + w64 (w64 (x1 + asI r5) * asI (l10.getD x6.toNat DV.undef)))))).getD
    (w64 (x6 + 1)).toNat DV.undef) then
            (bif okR l7 x0 { ag := false, css := [CS.int] } then
            (bif inR (w64 (x6 + 1))
  (l11.set x6.toNat
    (DV.int (w64 (asI (l11.getD x6.toNat DV.undef) + w64 (w64 (x1 + asI r5) * asI (l10.getD x6.toNat DV.undef)))))) then
            ih.at_ 10 1 (tblL [(4, DV.ptr 0 0), (6, DV.own 1), (7, DV.own 2), (8, DV.int x0), (9, DV.int x1), (10, DV.own 3), (26, DV.list false false 1 l2), (27, DV.int x3), (28, DV.int x4), (37, DV.own 2), (38, DV.int x5), (39, DV.int (w64 (x6 + 1)))]) [.box [DV.list false false 1 l7, DV.list false false 1 l8], .row false 1 (l9), .row false 1 (l10), .row false 1 ((l11.set x6.toNat
      (DV.int
        (w64 (asI (l11.getD x6.toNat DV.undef) + w64 (w64 (x1 + asI r5) * asI (l10.getD x6.toNat DV.undef)))))).set
  (w64 (x6 + 1)).toNat
  (DV.int
    (w64
      (asI
          ((l11.set x6.toNat
            (DV.int
            (w64
            (asI (l11.getD x6.toNat DV.undef) +
            w64 (w64 (x1 + asI r5) * asI (l10.getD x6.toNat DV.undef)))))).getD
            (w64 (x6 + 1)).toNat DV.undef) -
        w64 (asI (l7.getD x0.toNat DV.undef) * asI (l10.getD x6.toNat DV.undef))))))]
            else none)
            else none)
           else none)
          else none)
         else none)
        else none)
      else none)
     else none)
    else none)
   else none)
  else (bif decide (0 < x0) then
    ih.at_ 10 2 (tblL [(4, DV.ptr 0 0), (7, DV.own 1), (9, DV.int x1), (10, DV.own 2), (26, DV.list false false 1 l2), (27, DV.int x3), (28, DV.int x4), (74, DV.own 3), (75, DV.int (↑l9.length : Int)), (76, DV.int 0)]) [.box [DV.list false false 1 l7, DV.list false false 1 l8], .row false 1 (l10), .row false 1 (l11), .row false 1 (l9)]
   else ih.at_ 10 0 (tblL [(4, DV.ptr 0 0), (6, DV.own 1), (7, DV.own 2), (26, DV.list false false 1 l2), (27, DV.int x3), (28, DV.int (w64 (x4 + 1)))]) [.box [DV.list false false 1 l7, DV.list false false 1 l8], .row false 1 (l10), .row false 1 (l11)])) := by kernel_rfl
theorem e10_2 (ih : VIh) (x0 : Int) (l1 : List DV) (x2 : Int) (x3 : Int) (x4 : Int) (x5 : Int) (l6 : List DV) (l7 : List DV) (l8 : List DV) (l9 : List DV) (l10 : List DV) : atF vt1 ih 10 2 (tblL [(4, DV.ptr 0 0), (7, DV.own 1), (9, DV.int x0), (10, DV.own 2), (26, DV.list false false 1 l1), (27, DV.int x2), (28, DV.int x3), (74, DV.own 3), (75, DV.int x4), (76, DV.int x5)]) [VB.box [DV.list false false 1 l6, DV.list false false 1 l7], VB.row false 1 l8, VB.row false 1 l9, VB.row false 1 l10] =
  (bif decide (x5 < x4) then
   (bif inR x5 l10 then
    (bif isRow { ag := false, css := [CS.int] } (l10.getD x5.toNat DV.undef) then
     (bif inR x5 l9 then
      (bif isRow { ag := false, css := [CS.int] } (l9.getD x5.toNat DV.undef) then
       (bif inR x5 l9 then
        ih.at_ 10 2 (tblL [(4, DV.ptr 0 0), (7, DV.own 1), (9, DV.int x0), (10, DV.own 2), (26, DV.list false false 1 l1), (27, DV.int x2), (28, DV.int x3), (74, DV.own 3), (75, DV.int x4), (76, DV.int (w64 (x5 + 1)))]) [.box [DV.list false false 1 l6, DV.list false false 1 l7], .row false 1 (l8), .row false 1 (l9.set x5.toNat
  (DV.int (w64 (asI (l9.getD x5.toNat DV.undef) - w64 (w64 (x0 * x0) * asI (l10.getD x5.toNat DV.undef)))))), .row false 1 (l10)]
       else none)
      else none)
     else none)
    else none)
   else none)
  else ih.at_ 10 0 (tblL [(4, DV.ptr 0 0), (6, DV.own 1), (7, DV.own 2), (26, DV.list false false 1 l1), (27, DV.int x2), (28, DV.int (w64 (x3 + 1)))]) [.box [DV.list false false 1 l6, DV.list false false 1 l7], .row false 1 (l8), .row false 1 (l9)]) := by kernel_rfl
theorem e47 (ih : VIh) (l0 : List DV) (l1 : List DV) : callF vt1 ih 47 [DV.agg [DV.list false false 1 l0, DV.list false false 1 l1]] =
  bindC (ih.call 8 [DV.agg [DV.list true false 1 l0, DV.list true false 1 l1]]) fun r0 =>
   (bif isRes [{ ag := false, css := [CS.int] }, { ag := false, css := [CS.int] }] r0 then
    some (DV.tup [DV.agg [DV.list false false 1 l0, DV.list false false 1 l1], DV.int (asI ((tupL r0).getD 1 DV.undef))])
   else none) := by kernel_rfl
theorem e48 (ih : VIh) (l0 : List DV) (l1 : List DV) (x2 : Int) : callF vt1 ih 48 [DV.agg [DV.list true false 1 l0, DV.list true false 1 l1], DV.int x2] =
  (bif decide (w64 (x2 + 1) < (↑l1.length : Int)) then
   (bif okR l1 (w64 (x2 + 1)) { ag := false, css := [CS.int] } then
    some (DV.int (asI (l1.getD (w64 (x2 + 1)).toNat DV.undef)))
   else none)
  else some (DV.int 0)) := by kernel_rfl
theorem e11 (ih : VIh) (l0 : List DV) (l1 : List DV) : callF vt1 ih 11 [DV.agg [DV.list false false 1 l0, DV.list false false 1 l1]] =
  bindC (ih.call 47 [DV.agg [DV.list false false 1 l0, DV.list false false 1 l1]]) fun r0 =>
   (bif isRes [{ ag := true, css := [CS.list 1, CS.list 1] }, { ag := false, css := [CS.int] }] r0 then
    (bif !decide (asI ((tupL r0).getD 1 DV.undef) = 0) then
     some (DV.tup [DV.agg [DV.int 0, DV.int 0], DV.int (asI ((tupL r0).getD 1 DV.undef))])
    else ih.at_ 11 0 (tblL [(2, DV.ptr 0 0), (4, DV.ptr 1 0), (6, DV.ptr 2 0), (20, DV.list false false 1 (asR (cellOf ((tupL r0).getD 0 DV.undef) 0))), (21, DV.int (↑(asR (cellOf ((tupL r0).getD 0 DV.undef) 0)).length : Int)), (22, DV.int 0)]) [.box [DV.int 0, DV.int 0], .box [DV.list false false 1 (asR (cellOf ((tupL r0).getD 0 DV.undef) 0)),
  DV.list false false 1 (asR (cellOf ((tupL r0).getD 0 DV.undef) 1))], .box [DV.int 0, DV.int 1]])
   else none) := by kernel_rfl
theorem e11_0 (ih : VIh) (l0 : List DV) (x1 : Int) (x2 : Int) (x3 : Int) (x4 : Int) (l5 : List DV) (l6 : List DV) (x7 : Int) (x8 : Int) : atF vt1 ih 11 0 (tblL [(2, DV.ptr 0 0), (4, DV.ptr 1 0), (6, DV.ptr 2 0), (20, DV.list false false 1 l0), (21, DV.int x1), (22, DV.int x2)]) [VB.box [DV.int x3, DV.int x4], VB.box [DV.list false false 1 l5, DV.list false false 1 l6], VB.box [DV.int x7, DV.int x8]] =
  (bif decide (x2 < x1) then
   (bif okR l0 x2 { ag := false, css := [CS.int] } then
    (bif okR l6 x2 { ag := false, css := [CS.int] } then
     bindC (ih.call 48 [DV.agg [DV.list true false 1 l5, DV.list true false 1 l6], DV.int x2]) fun r3 =>
      (bif isRes [{ ag := false, css := [CS.int] }] r3 then
       bindC (ih.call 49 [DV.int (w64 (w64 (x7 * asI (l0.getD x2.toNat DV.undef)) + w64 (w64 (asI (l6.getD x2.toNat DV.undef) + asI r3) * x8))),
  DV.int (w64 (x8 * asI (l0.getD x2.toNat DV.undef)))]) fun r5 =>
        (bif isRes [{ ag := true, css := [CS.int, CS.int] }] r5 then
         ih.at_ 11 0 (tblL [(2, DV.ptr 0 0), (4, DV.ptr 1 0), (6, DV.ptr 2 0), (20, DV.list false false 1 l0), (21, DV.int x1), (22, DV.int (w64 (x2 + 1)))]) [.box [DV.int x3, DV.int x4], .box [DV.list false false 1 l5, DV.list false false 1 l6], .box [DV.int (asI (cellOf r5 0)), DV.int (asI (cellOf r5 1))]]
        else none)
      else none)
    else none)
   else none)
  else some (DV.tup [DV.agg [DV.int x7, DV.int x8], DV.int 0])) := by kernel_rfl
theorem e49 (ih : VIh) (x0 : Int) (x1 : Int) : callF vt1 ih 49 [DV.int x0, DV.int x1] =
  bindC (ih.call 94 [DV.list true false 1 [DV.int x0, DV.int x1]]) fun r0 =>
   (bif isRes [{ ag := false, css := [CS.int] }] r0 then
    (bif decide (asI r0 = 0) then
     none
    else (bif decide (asI r0 = 0) then
      none
     else some (DV.agg [DV.int (w64 (x0.tdiv (asI r0))), DV.int (w64 (x1.tdiv (asI r0)))])))
   else none) := by kernel_rfl
theorem e94 (ih : VIh) (l0 : List DV) : callF vt1 ih 94 [DV.list true false 1 l0] =
  ih.at_ 94 0 (tblL [(3, DV.int 0), (6, DV.list true false 1 l0), (7, DV.int (↑l0.length : Int)), (8, DV.int 0)]) [] := by kernel_rfl
theorem e94_0 (ih : VIh) (x0 : Int) (l1 : List DV) (x2 : Int) (x3 : Int) : atF vt1 ih 94 0 (tblL [(3, DV.int x0), (6, DV.list true false 1 l1), (7, DV.int x2), (8, DV.int x3)]) [] =
  (bif decide (x3 < x2) then
   (bif okR l1 x3 { ag := false, css := [CS.int] } then
    ih.at_ 94 1 (tblL [(3, DV.int x0), (5, DV.int (asI (l1.getD x3.toNat DV.undef))), (6, DV.list true false 1 l1), (7, DV.int x2), (8, DV.int x3)]) []
   else none)
  else some (DV.int (max x0 (w64 (0 - x0))))) := by kernel_rfl
theorem e94_1 (ih : VIh) (x0 : Int) (x1 : Int) (l2 : List DV) (x3 : Int) (x4 : Int) : atF vt1 ih 94 1 (tblL [(3, DV.int x0), (5, DV.int x1), (6, DV.list true false 1 l2), (7, DV.int x3), (8, DV.int x4)]) [] =
  (bif !decide (x1 = 0) then
   (bif decide (x1 = 0) then
    none
   else ih.at_ 94 1 (tblL [(3, DV.int x1), (5, DV.int (x0.tmod x1)), (6, DV.list true false 1 l2), (7, DV.int x3), (8, DV.int x4)]) [])
  else ih.at_ 94 0 (tblL [(3, DV.int x0), (6, DV.list true false 1 l2), (7, DV.int x3), (8, DV.int (w64 (x4 + 1)))]) []) := by kernel_rfl
theorem e12 (ih : VIh) (l0 : List DV) (l1 : List DV) : callF vt1 ih 12 [DV.agg [DV.list true false 1 l0, DV.list true false 1 l1]] =
  (bif decide ((↑l0.length : Int) = 0) then
   some (DV.tup [DV.int 0, DV.int 10])
  else (bif !decide ((↑l1.length : Int) = (↑l0.length : Int)) then
    some (DV.tup [DV.int 0, DV.int 10])
   else (bif decide (4 < (↑l0.length : Int)) then
     some (DV.tup [DV.int 0, DV.int 8])
    else ih.at_ 12 0 (tblL [(1, DV.ptr 0 0), (4, DV.int 0)]) [.box [DV.list true false 1 l0, DV.list true false 1 l1]]))) := by kernel_rfl
theorem e12_0 (ih : VIh) (x0 : Int) (l1 : List DV) (l2 : List DV) : atF vt1 ih 12 0 (tblL [(1, DV.ptr 0 0), (4, DV.int x0)]) [VB.box [DV.list true false 1 l1, DV.list true false 1 l2]] =
  (bif decide (x0 < (↑l1.length : Int)) then
   (bif okR l1 x0 { ag := false, css := [CS.int] } then
    bindC (ih.call 50 [DV.int (asI (l1.getD x0.toNat DV.undef)), DV.int 1, DV.int 10]) fun r2 =>
     (bif isRes [{ ag := false, css := [CS.bool] }] r2 then
      (bif !asB r2 then
       some (DV.tup [DV.int x0, DV.int 2])
      else (bif okR l2 x0 { ag := false, css := [CS.int] } then
        bindC (ih.call 50 [DV.int (asI (l2.getD x0.toNat DV.undef)), DV.int 1, DV.int 20]) fun r6 =>
         (bif isRes [{ ag := false, css := [CS.bool] }] r6 then
          (bif !asB r6 then
           some (DV.tup [DV.int x0, DV.int 2])
          else ih.at_ 12 0 (tblL [(1, DV.ptr 0 0), (4, DV.int (w64 (x0 + 1)))]) [.box [DV.list true false 1 l1, DV.list true false 1 l2]])
         else none)
       else none))
     else none)
   else none)
  else some (DV.tup [DV.int 0, DV.int 0])) := by kernel_rfl
theorem e14 (ih : VIh) (l0 : List DV) (l1 : List DV) : callF vt1 ih 14 [DV.agg [DV.list true false 1 l0, DV.list true false 1 l1]] =
  ih.at_ 14 0 (tblL [(1, DV.ptr 0 0), (3, DV.own 1), (4, DV.own 2), (5, DV.int 0)]) [.box [DV.list true false 1 l0, DV.list true false 1 l1], .row false 1 ([DV.int 1]), .row false 1 ([DV.int 0])] := by kernel_rfl
theorem e14_0 (ih : VIh) (x0 : Int) (l1 : List DV) (l2 : List DV) (l3 : List DV) (l4 : List DV) : atF vt1 ih 14 0 (tblL [(1, DV.ptr 0 0), (3, DV.own 1), (4, DV.own 2), (5, DV.int x0)]) [VB.box [DV.list true false 1 l1, DV.list true false 1 l2], VB.row false 1 l3, VB.row false 1 l4] =
  (bif decide (x0 < (↑l1.length : Int)) then
   (bif decide (0 ≤ w64 ((↑l3.length : Int) + 1)) && decide (w64 ((↑l3.length : Int) + 1) = w64 ((↑l3.length : Int) + 1)) &&
  decide (w64 ((↑l3.length : Int) + 1) ≤ 1048576) then
    ih.at_ 14 1 (tblL [(1, DV.ptr 0 0), (3, DV.own 1), (4, DV.own 2), (5, DV.int x0), (6, DV.own 3), (7, DV.int 0)]) [.box [DV.list true false 1 l1, DV.list true false 1 l2], .row false 1 (l3), .row false 1 (l4), .row false 1 (List.replicate (w64 ((↑l3.length : Int) + 1)).toNat (DV.int 0))]
   else none)
  else some (DV.list false false 1 l3)) := by kernel_rfl
theorem e14_1 (ih : VIh) (x0 : Int) (x1 : Int) (l2 : List DV) (l3 : List DV) (l4 : List DV) (l5 : List DV) (l6 : List DV) : atF vt1 ih 14 1 (tblL [(1, DV.ptr 0 0), (3, DV.own 1), (4, DV.own 2), (5, DV.int x0), (6, DV.own 3), (7, DV.int x1)]) [VB.box [DV.list true false 1 l2, DV.list true false 1 l3], VB.row false 1 l4, VB.row false 1 l5, VB.row false 1 l6] =
  (bif decide (x1 < (↑l4.length : Int)) then
   (bif inR x1 l6 then
    (bif isRow { ag := false, css := [CS.int] } (l6.getD x1.toNat DV.undef) then
     bindC (ih.call 51 [DV.agg [DV.list true false 1 l2, DV.list true false 1 l3], DV.int x0]) fun r3 =>
      (bif isRes [{ ag := false, css := [CS.int] }] r3 then
       (bif inR x1 l4 then
        (bif isRow { ag := false, css := [CS.int] } (l4.getD x1.toNat DV.undef) then
         (bif inR x1 l6 then
          (bif inR (w64 (x1 + 1))
  (l6.set x1.toNat (DV.int (w64 (asI (l6.getD x1.toNat DV.undef) + w64 (asI r3 * asI (l4.getD x1.toNat DV.undef)))))) then
           (bif isRow { ag := false, css := [CS.int] }
  ((l6.set x1.toNat
        (DV.int (w64 (asI (l6.getD x1.toNat DV.undef) + w64 (asI r3 * asI (l4.getD x1.toNat DV.undef)))))).getD
    (w64 (x1 + 1)).toNat DV.undef) then
            (bif okR l2 x0 { ag := false, css := [CS.int] } then
            (bif inR x1 l4 then
            (bif isRow { ag := false, css := [CS.int] } (l4.getD x1.toNat DV.undef) then
            (bif inR (w64 (x1 + 1))
  (l6.set x1.toNat (DV.int (w64 (asI (l6.getD x1.toNat DV.undef) + w64 (asI r3 * asI (l4.getD x1.toNat DV.undef)))))) then
            ih.at_ 14 1 (tblL [(1, DV.ptr 0 0), (3, DV.own 1), (4, DV.own 2), (5, DV.int x0), (6, DV.own 3), (7, DV.int (w64 (x1 + 1)))]) [.box [DV.list true false 1 l2, DV.list true false 1 l3], .row false 1 (l4), .row false 1 (l5), .row false 1 ((l6.set x1.toNat (DV.int (w64 (asI (l6.getD x1.toNat DV.undef) + w64 (asI r3 * asI (l4.getD x1.toNat DV.undef)))))).set
  (w64 (x1 + 1)).toNat
  (DV.int
    (w64
      (asI
          ((l6.set x1.toNat
            (DV.int (w64 (asI (l6.getD x1.toNat DV.undef) + w64 (asI r3 * asI (l4.getD x1.toNat DV.undef)))))).getD
            (w64 (x1 + 1)).toNat DV.undef) -
        w64 (asI (l2.getD x0.toNat DV.undef) * asI (l4.getD x1.toNat DV.undef))))))]
            else none)
            else none)
            else none)
            else none)
           else none)
          else none)
         else none)
        else none)
       else none)
      else none)
    else none)
   else none)
  else ih.at_ 14 2 (tblL [(1, DV.ptr 0 0), (3, DV.own 1), (4, DV.own 2), (5, DV.int x0), (6, DV.own 3), (8, DV.int 0)]) [.box [DV.list true false 1 l2, DV.list true false 1 l3], .row false 1 (l4), .row false 1 (l5), .row false 1 (l6)]) := by kernel_rfl
theorem e14_2 (ih : VIh) (x0 : Int) (x1 : Int) (l2 : List DV) (l3 : List DV) (l4 : List DV) (l5 : List DV) (l6 : List DV) : atF vt1 ih 14 2 (tblL [(1, DV.ptr 0 0), (3, DV.own 1), (4, DV.own 2), (5, DV.int x0), (6, DV.own 3), (8, DV.int x1)]) [VB.box [DV.list true false 1 l2, DV.list true false 1 l3], VB.row false 1 l4, VB.row false 1 l5, VB.row false 1 l6] =
  (bif decide (x1 < (↑l5.length : Int)) then
   (bif decide (0 < x0) then
    (bif inR x1 l6 then
     (bif isRow { ag := false, css := [CS.int] } (l6.getD x1.toNat DV.undef) then
      (bif okR l3 x0 { ag := false, css := [CS.int] } then
       (bif okR l3 x0 { ag := false, css := [CS.int] } then
        (bif inR x1 l5 then
         (bif isRow { ag := false, css := [CS.int] } (l5.getD x1.toNat DV.undef) then
          (bif inR x1 l6 then
           ih.at_ 14 2 (tblL [(1, DV.ptr 0 0), (3, DV.own 1), (4, DV.own 2), (5, DV.int x0), (6, DV.own 3), (8, DV.int (w64 (x1 + 1)))]) [.box [DV.list true false 1 l2, DV.list true false 1 l3], .row false 1 (l4), .row false 1 (l5), .row false 1 (l6.set x1.toNat
  (DV.int
    (w64
      (asI (l6.getD x1.toNat DV.undef) -
        w64
          (w64 (asI (l3.getD x0.toNat DV.undef) * asI (l3.getD x0.toNat DV.undef)) * asI (l5.getD x1.toNat DV.undef))))))]
          else none)
         else none)
        else none)
       else none)
      else none)
     else none)
    else none)
   else ih.at_ 14 0 (tblL [(1, DV.ptr 0 0), (3, DV.own 1), (4, DV.own 2), (5, DV.int (w64 (x0 + 1)))]) [.box [DV.list true false 1 l2, DV.list true false 1 l3], .row false 1 (l6), .row false 1 (l4)])
  else ih.at_ 14 0 (tblL [(1, DV.ptr 0 0), (3, DV.own 1), (4, DV.own 2), (5, DV.int (w64 (x0 + 1)))]) [.box [DV.list true false 1 l2, DV.list true false 1 l3], .row false 1 (l6), .row false 1 (l4)]) := by kernel_rfl
theorem e51 (ih : VIh) (l0 : List DV) (l1 : List DV) (x2 : Int) : callF vt1 ih 51 [DV.agg [DV.list true false 1 l0, DV.list true false 1 l1], DV.int x2] =
  (bif decide (w64 (x2 + 1) < (↑l1.length : Int)) then
   (bif okR l1 x2 { ag := false, css := [CS.int] } then
    (bif okR l1 (w64 (x2 + 1)) { ag := false, css := [CS.int] } then
     some (DV.int (w64 (asI (l1.getD x2.toNat DV.undef) + asI (l1.getD (w64 (x2 + 1)).toNat DV.undef))))
    else none)
   else none)
  else (bif okR l1 x2 { ag := false, css := [CS.int] } then
    some (DV.int (asI (l1.getD x2.toNat DV.undef)))
   else none)) := by kernel_rfl
theorem e15 (ih : VIh) (l0 : List DV) (l1 : List DV) : callF vt1 ih 15 [DV.agg [DV.list true false 1 l0, DV.list true false 1 l1]] =
  bindC (ih.call 52 [DV.int 0]) fun r0 =>
   (bif isRes [{ ag := true, css := [CS.int, CS.list 1, CS.int, CS.list 1] }] r0 then
    ih.at_ 15 0 (tblL [(1, DV.ptr 0 0), (2, DV.ptr 1 0), (3, DV.ptr 2 0), (4, DV.int 0)]) [.box [DV.list true false 1 l0, DV.list true false 1 l1], .box [DV.int 0, DV.int 0], .box [DV.int (asI (cellOf r0 0)), DV.list false false 1 (asR (cellOf r0 1)), DV.int (asI (cellOf r0 2)),
  DV.list false false 1 (asR (cellOf r0 3))]]
   else none) := by kernel_rfl
theorem e15_0 (ih : VIh) (x0 : Int) (l1 : List DV) (l2 : List DV) (x3 : Int) (x4 : Int) (x5 : Int) (l6 : List DV) (x7 : Int) (l8 : List DV) : atF vt1 ih 15 0 (tblL [(1, DV.ptr 0 0), (2, DV.ptr 1 0), (3, DV.ptr 2 0), (4, DV.int x0)]) [VB.box [DV.list true false 1 l1, DV.list true false 1 l2], VB.box [DV.int x3, DV.int x4], VB.box [DV.int x5, DV.list false false 1 l6, DV.int x7, DV.list false false 1 l8]] =
  (bif decide (x0 < (↑l1.length : Int)) then
   bindC (ih.call 51 [DV.agg [DV.list true false 1 l1, DV.list true false 1 l2], DV.int x0]) fun r1 =>
    (bif isRes [{ ag := false, css := [CS.int] }] r1 then
     (bif okR l1 x0 { ag := false, css := [CS.int] } then
      bindC (ih.call 54 [DV.int (asI r1), DV.int (asI (l1.getD x0.toNat DV.undef))]) fun r4 =>
       (bif isRes [{ ag := true, css := [CS.int, CS.list 1, CS.int, CS.list 1] }] r4 then
        bindC (ih.call 53 [DV.agg [DV.int x5, DV.list false false 1 l6, DV.int x7, DV.list false false 1 l8],
  DV.agg
    [DV.int (asI (cellOf r4 0)), DV.list false false 1 (asR (cellOf r4 1)), DV.int (asI (cellOf r4 2)),
      DV.list false false 1 (asR (cellOf r4 3))]]) fun r6 =>
         (bif isRes [{ ag := true, css := [CS.int, CS.list 1, CS.int, CS.list 1] }] r6 then
          ih.at_ 15 0 (tblL [(1, DV.ptr 0 0), (2, DV.ptr 1 0), (3, DV.ptr 2 0), (4, DV.int (w64 (x0 + 1)))]) [.box [DV.list true false 1 l1, DV.list true false 1 l2], .box [DV.int x3, DV.int x4], .box [DV.int (asI (cellOf r6 0)), DV.list false false 1 (asR (cellOf r6 1)), DV.int (asI (cellOf r6 2)),
  DV.list false false 1 (asR (cellOf r6 3))]]
         else none)
       else none)
     else none)
    else none)
  else bindC (ih.call 55 [DV.agg [DV.int x5, DV.list false false 1 l6, DV.int x7, DV.list false false 1 l8]]) fun r8 =>
    (bif isRes [{ ag := true, css := [CS.int, CS.int] }, { ag := false, css := [CS.bool] }] r8 then
     some (DV.agg [DV.int (asI (cellOf ((tupL r8).getD 0 DV.undef) 0)), DV.int (asI (cellOf ((tupL r8).getD 0 DV.undef) 1))])
    else none)) := by kernel_rfl
theorem e3 (ih : VIh) (l0 : List DV) (l1 : List DV) : callF vt1 ih 3 [DV.agg [DV.list true false 1 l0, DV.list true false 1 l1]] =
  bindC (ih.call 6 []) fun r0 =>
   (bif isRes [{ ag := false, css := [CS.bool] }] r0 then
    (bif !asB r0 then
     some (DV.bool false)
    else bindC (ih.call 7 [DV.agg [DV.list true false 1 l0, DV.list true false 1 l1]]) fun r3 =>
      (bif isRes [{ ag := false, css := [CS.bool] }] r3 then
       (bif !asB r3 then
        some (DV.bool true)
       else bindC (ih.call 9 [DV.agg [DV.list true false 1 l0, DV.list true false 1 l1]]) fun r6 =>
         (bif isRes [{ ag := true, css := [CS.list 1, CS.list 1] }] r6 then
          bindC (ih.call 8 [DV.agg [DV.list true false 1 (asR (cellOf r6 0)), DV.list true false 1 (asR (cellOf r6 1))]]) fun r8 =>
           (bif isRes [{ ag := false, css := [CS.int] }, { ag := false, css := [CS.int] }] r8 then
            bindC (ih.call 9 [DV.agg [DV.list true false 1 l0, DV.list true false 1 l1]]) fun r10 =>
            (bif isRes [{ ag := true, css := [CS.list 1, CS.list 1] }] r10 then
            bindC (ih.call 10 [DV.agg [DV.list false false 1 (asR (cellOf r10 0)), DV.list false false 1 (asR (cellOf r10 1))]]) fun r12 =>
            (bif isRes [{ ag := false, css := [CS.list 1] }, { ag := false, css := [CS.int] }] r12 then
            bindC (ih.call 9 [DV.agg [DV.list true false 1 l0, DV.list true false 1 l1]]) fun r14 =>
            (bif isRes [{ ag := true, css := [CS.list 1, CS.list 1] }] r14 then
            bindC (ih.call 11 [DV.agg [DV.list false false 1 (asR (cellOf r14 0)), DV.list false false 1 (asR (cellOf r14 1))]]) fun r16 =>
            (bif isRes [{ ag := true, css := [CS.int, CS.int] }, { ag := false, css := [CS.int] }] r16 then
            bindC (ih.call 12 [DV.agg [DV.list true false 1 l0, DV.list true false 1 l1]]) fun r18 =>
            (bif isRes [{ ag := false, css := [CS.int] }, { ag := false, css := [CS.int] }] r18 then
            (bif !decide (asI ((tupL r8).getD 1 DV.undef) = asI ((tupL r18).getD 1 DV.undef)) then
            some (DV.bool false)
            else (bif !decide (asI ((tupL r8).getD 0 DV.undef) = asI ((tupL r18).getD 0 DV.undef)) then
            some (DV.bool false)
            else (bif !decide (asI ((tupL r18).getD 1 DV.undef) = 0) then
            (bif decide (asI ((tupL r12).getD 1 DV.undef) = asI ((tupL r18).getD 1 DV.undef)) then
            (bif decide ((↑(asR ((tupL r12).getD 0 DV.undef)).length : Int) = 0) then
            (bif decide (asI ((tupL r16).getD 1 DV.undef) = asI ((tupL r18).getD 1 DV.undef)) then
            some (DV.bool
  (decide (asI (cellOf ((tupL r16).getD 0 DV.undef) 0) = 0) && decide (asI (cellOf ((tupL r16).getD 0 DV.undef) 1) = 0)))
            else some (DV.bool false))
            else some (DV.bool false))
            else some (DV.bool false))
            else (bif decide (asI ((tupL r12).getD 1 DV.undef) = 0) then
            bindC (ih.call 14 [DV.agg [DV.list true false 1 l0, DV.list true false 1 l1]]) fun r27 =>
            (bif isRes [{ ag := false, css := [CS.list 1] }] r27 then
            bindC (ih.call 13 [DV.list true false 1 (asR ((tupL r12).getD 0 DV.undef)), DV.list true false 1 (asR r27)]) fun r29 =>
            (bif isRes [{ ag := false, css := [CS.bool] }] r29 then
            (bif asB r29 then
            (bif decide (asI ((tupL r16).getD 1 DV.undef) = 0) then
            bindC (ih.call 15 [DV.agg [DV.list true false 1 l0, DV.list true false 1 l1]]) fun r33 =>
            (bif isRes [{ ag := true, css := [CS.int, CS.int] }] r33 then
            some (DV.bool
  (decide (asI (cellOf ((tupL r16).getD 0 DV.undef) 0) = asI (cellOf r33 0)) &&
    decide (asI (cellOf ((tupL r16).getD 0 DV.undef) 1) = asI (cellOf r33 1))))
            else none)
            else some (DV.bool false))
            else some (DV.bool false))
            else none)
            else none)
            else some (DV.bool false)))))
            else none)
            else none)
            else none)
            else none)
            else none)
           else none)
         else none))
      else none))
   else none) := by kernel_rfl
end Go.Proofs
/- Equations of V for functions of the program: written by a program of this session (NF, NFg, gq). -/
namespace Go.Proofs
open Go Go.Sx Go.Vx
set_option maxRecDepth 100000
set_option maxHeartbeats 0
theorem e153 (ih : VIh) (l0 : List DV) : callF vt1 ih 153 [DV.list false false 1 l0] =
  ih.at_ 153 0 (tblL [(0, DV.list false false 1 l0), (3, DV.int (↑l0.length : Int))]) [] := by kernel_rfl
theorem e153_0 (ih : VIh) (l0 : List DV) (x1 : Int) : atF vt1 ih 153 0 (tblL [(0, DV.list false false 1 l0), (3, DV.int x1)]) [] =
  (bif decide (0 < x1) then
   (bif okR l0 (w64 (x1 - 1)) { ag := false, css := [CS.int] } then
    (bif decide (asI (l0.getD (w64 (x1 - 1)).toNat DV.undef) = 0) then
     ih.at_ 153 0 (tblL [(0, DV.list false false 1 l0), (3, DV.int (w64 (x1 - 1)))]) []
    else (bif decide (0 ≤ x1) && decide (x1 ≤ (↑l0.length : Int)) then
      some (DV.list false false 1 (List.take x1.toNat l0))
     else none))
   else none)
  else (bif decide (0 ≤ x1) && decide (x1 ≤ (↑l0.length : Int)) then
    some (DV.list false false 1 (List.take x1.toNat l0))
   else none)) := by kernel_rfl
theorem e129 (ih : VIh) (x0 : Int) (l1 : List DV) : callF vt1 ih 129 [DV.int x0, DV.list false false 1 l1] =
  bindC (ih.call 153 [DV.list false false 1 l1]) fun r0 =>
   (bif isRes [{ ag := false, css := [CS.list 1] }] r0 then
    (bif decide ((↑(asR r0).length : Int) = 0) then
     some (DV.agg [DV.int 0, DV.list false false 1 (asR r0)])
    else some (DV.agg [DV.int x0, DV.list false false 1 (asR r0)]))
   else none) := by kernel_rfl
theorem e128 (ih : VIh) (x0 : Int) : callF vt1 ih 128 [DV.int x0] =
  some (DV.int (max x0 (w64 (0 - x0)))) := by kernel_rfl
theorem e95 (ih : VIh) (x0 : Int) : callF vt1 ih 95 [DV.int x0] =
  (bif decide (x0 < 0) then
   ih.at_ 95 0 (tblL [(0, DV.int x0), (2, DV.ptr 0 0), (3, DV.int (-1)), (4, DV.own 1)]) [.box [DV.int 0, DV.nils], .row true 1 ([])]
  else ih.at_ 95 0 (tblL [(0, DV.int x0), (2, DV.ptr 0 0), (3, DV.int 1), (4, DV.own 1)]) [.box [DV.int 0, DV.nils], .row true 1 ([])]) := by kernel_rfl
theorem e95_0 (ih : VIh) (x0 : Int) (x1 : Int) (x2 : Int) (l3 : List DV) : atF vt1 ih 95 0 (tblL [(0, DV.int x0), (2, DV.ptr 0 0), (3, DV.int x1), (4, DV.own 1)]) [VB.box [DV.int x2, DV.nils], VB.row true 1 l3] =
  (bif !decide (x0 = 0) then
   bindC (ih.call 128 [DV.int (x0.tmod 1000000000)]) fun r1 =>
    (bif isRes [{ ag := false, css := [CS.int] }] r1 then
     (bif lenOk l3 [DV.int (asI r1)] then
      ih.at_ 95 0 (tblL [(0, DV.int (w64 (x0.tdiv 1000000000))), (2, DV.ptr 0 0), (3, DV.int x1), (4, DV.own 1)]) [.box [DV.int x2, DV.nils], .row true 1 (l3 ++ [DV.int (asI r1)])]
     else none)
    else none)
  else bindC (ih.call 129 [DV.int x1, DV.list false false 1 l3]) fun r4 =>
    (bif isRes [{ ag := true, css := [CS.int, CS.list 1] }] r4 then
     some (DV.agg [DV.int (asI (cellOf r4 0)), DV.list false false 1 (asR (cellOf r4 1))])
    else none)) := by kernel_rfl
theorem e135 (ih : VIh) (l0 : List DV) (l1 : List DV) : callF vt1 ih 135 [DV.list false false 1 l0, DV.list false false 1 l1] =
  (bif !decide ((↑l0.length : Int) = (↑l1.length : Int)) then
   (bif decide ((↑l0.length : Int) < (↑l1.length : Int)) then
    some (DV.int (-1))
   else some (DV.int 1))
  else ih.at_ 135 0 (tblL [(0, DV.list false false 1 l0), (1, DV.list false false 1 l1), (5, DV.int (w64 ((↑l0.length : Int) - 1)))]) []) := by kernel_rfl
theorem e135_0 (ih : VIh) (l0 : List DV) (l1 : List DV) (x2 : Int) : atF vt1 ih 135 0 (tblL [(0, DV.list false false 1 l0), (1, DV.list false false 1 l1), (5, DV.int x2)]) [] =
  (bif decide (0 ≤ x2) then
   (bif okR l0 x2 { ag := false, css := [CS.int] } then
    (bif okR l1 x2 { ag := false, css := [CS.int] } then
     (bif decide (asI (l0.getD x2.toNat DV.undef) < asI (l1.getD x2.toNat DV.undef)) then
      some (DV.int (-1))
     else (bif okR l0 x2 { ag := false, css := [CS.int] } then
       (bif okR l1 x2 { ag := false, css := [CS.int] } then
        (bif decide (asI (l1.getD x2.toNat DV.undef) < asI (l0.getD x2.toNat DV.undef)) then
         some (DV.int 1)
        else ih.at_ 135 0 (tblL [(0, DV.list false false 1 l0), (1, DV.list false false 1 l1), (5, DV.int (w64 (x2 - 1)))]) [])
       else none)
      else none))
    else none)
   else none)
  else some (DV.int 0)) := by kernel_rfl
theorem e156 (ih : VIh) (l0 : List DV) (x1 : Int) : callF vt1 ih 156 [DV.list false false 1 l0, DV.int x1] =
  (bif decide (x1 < (↑l0.length : Int)) then
   (bif okR l0 x1 { ag := false, css := [CS.int] } then
    some (DV.int (asI (l0.getD x1.toNat DV.undef)))
   else none)
  else some (DV.int 0)) := by kernel_rfl
theorem e134 (ih : VIh) (l0 : List DV) (l1 : List DV) : callF vt1 ih 134 [DV.list false false 1 l0, DV.list false false 1 l1] =
  ih.at_ 134 0 (tblL [(0, DV.list false false 1 l0), (1, DV.list false false 1 l1), (5, DV.own 0), (6, DV.int 0), (7, DV.int 0)]) [.row true 1 ([])] := by kernel_rfl
theorem e134_0 (ih : VIh) (l0 : List DV) (l1 : List DV) (x2 : Int) (x3 : Int) (l4 : List DV) : atF vt1 ih 134 0 (tblL [(0, DV.list false false 1 l0), (1, DV.list false false 1 l1), (5, DV.own 0), (6, DV.int x2), (7, DV.int x3)]) [VB.row true 1 l4] =
  (bif decide (x3 < (↑l0.length : Int)) then
   bindC (ih.call 156 [DV.list false false 1 l0, DV.int x3]) fun r1 =>
    (bif isRes [{ ag := false, css := [CS.int] }] r1 then
     bindC (ih.call 156 [DV.list false false 1 l1, DV.int x3]) fun r3 =>
      (bif isRes [{ ag := false, css := [CS.int] }] r3 then
       (bif lenOk l4 [DV.int ((w64 (w64 (asI r1 + asI r3) + x2)).tmod 1000000000)] then
        ih.at_ 134 0 (tblL [(0, DV.list false false 1 l0), (1, DV.list false false 1 l1), (5, DV.own 0), (6, DV.int (w64 ((w64 (w64 (asI r1 + asI r3) + x2)).tdiv 1000000000))), (7, DV.int (w64 (x3 + 1)))]) [.row true 1 (l4 ++ [DV.int ((w64 (w64 (asI r1 + asI r3) + x2)).tmod 1000000000)])]
       else none)
      else none)
    else none)
  else (bif decide (x3 < (↑l1.length : Int)) then
    bindC (ih.call 156 [DV.list false false 1 l0, DV.int x3]) fun r7 =>
     (bif isRes [{ ag := false, css := [CS.int] }] r7 then
      bindC (ih.call 156 [DV.list false false 1 l1, DV.int x3]) fun r9 =>
       (bif isRes [{ ag := false, css := [CS.int] }] r9 then
        (bif lenOk l4 [DV.int ((w64 (w64 (asI r7 + asI r9) + x2)).tmod 1000000000)] then
         ih.at_ 134 0 (tblL [(0, DV.list false false 1 l0), (1, DV.list false false 1 l1), (5, DV.own 0), (6, DV.int (w64 ((w64 (w64 (asI r7 + asI r9) + x2)).tdiv 1000000000))), (7, DV.int (w64 (x3 + 1)))]) [.row true 1 (l4 ++ [DV.int ((w64 (w64 (asI r7 + asI r9) + x2)).tmod 1000000000)])]
        else none)
       else none)
     else none)
   else (bif decide (0 < x2) then
     bindC (ih.call 156 [DV.list false false 1 l0, DV.int x3]) fun r13 =>
      (bif isRes [{ ag := false, css := [CS.int] }] r13 then
       bindC (ih.call 156 [DV.list false false 1 l1, DV.int x3]) fun r15 =>
        (bif isRes [{ ag := false, css := [CS.int] }] r15 then
         (bif lenOk l4 [DV.int ((w64 (w64 (asI r13 + asI r15) + x2)).tmod 1000000000)] then
          ih.at_ 134 0 (tblL [(0, DV.list false false 1 l0), (1, DV.list false false 1 l1), (5, DV.own 0), (6, DV.int (w64 ((w64 (w64 (asI r13 + asI r15) + x2)).tdiv 1000000000))), (7, DV.int (w64 (x3 + 1)))]) [.row true 1 (l4 ++ [DV.int ((w64 (w64 (asI r13 + asI r15) + x2)).tmod 1000000000)])]
         else none)
        else none)
      else none)
    else some (DV.list false false 1 l4)))) := by kernel_rfl
theorem e136 (ih : VIh) (l0 : List DV) (l1 : List DV) : callF vt1 ih 136 [DV.list false false 1 l0, DV.list false false 1 l1] =
  ih.at_ 136 0 (tblL [(0, DV.list false false 1 l0), (1, DV.list false false 1 l1), (5, DV.own 0), (6, DV.int 0), (7, DV.int 0)]) [.row true 1 ([])] := by kernel_rfl
theorem e136_0 (ih : VIh) (l0 : List DV) (l1 : List DV) (x2 : Int) (x3 : Int) (l4 : List DV) : atF vt1 ih 136 0 (tblL [(0, DV.list false false 1 l0), (1, DV.list false false 1 l1), (5, DV.own 0), (6, DV.int x2), (7, DV.int x3)]) [VB.row true 1 l4] =
  (bif decide (x3 < (↑l0.length : Int)) then
   (bif okR l0 x3 { ag := false, css := [CS.int] } then
    bindC (ih.call 156 [DV.list false false 1 l1, DV.int x3]) fun r2 =>
     (bif isRes [{ ag := false, css := [CS.int] }] r2 then
      (bif decide (w64 (w64 (asI (l0.getD x3.toNat DV.undef) - asI r2) - x2) < 0) then
       (bif lenOk l4 [DV.int (w64 (w64 (w64 (asI (l0.getD x3.toNat DV.undef) - asI r2) - x2) + 1000000000))] then
        ih.at_ 136 0 (tblL [(0, DV.list false false 1 l0), (1, DV.list false false 1 l1), (5, DV.own 0), (6, DV.int 1), (7, DV.int (w64 (x3 + 1)))]) [.row true 1 (l4 ++ [DV.int (w64 (w64 (w64 (asI (l0.getD x3.toNat DV.undef) - asI r2) - x2) + 1000000000))])]
       else none)
      else (bif lenOk l4 [DV.int (w64 (w64 (asI (l0.getD x3.toNat DV.undef) - asI r2) - x2))] then
        ih.at_ 136 0 (tblL [(0, DV.list false false 1 l0), (1, DV.list false false 1 l1), (5, DV.own 0), (6, DV.int 0), (7, DV.int (w64 (x3 + 1)))]) [.row true 1 (l4 ++ [DV.int (w64 (w64 (asI (l0.getD x3.toNat DV.undef) - asI r2) - x2))])]
       else none))
     else none)
   else none)
  else bindC (ih.call 153 [DV.list false false 1 l4]) fun r7 =>
    (bif isRes [{ ag := false, css := [CS.list 1] }] r7 then
     some (DV.list false false 1 (asR r7))
    else none)) := by kernel_rfl
theorem e130 (ih : VIh) (x0 : Int) (l1 : List DV) : callF vt1 ih 130 [DV.agg [DV.int x0, DV.list false false 1 l1]] =
  some (DV.agg [DV.int (w64 (0 - x0)), DV.list false false 1 l1]) := by kernel_rfl
theorem e155 (ih : VIh) (x0 : Int) (l1 : List DV) (x2 : Int) (l3 : List DV) : callF vt1 ih 155 [DV.agg [DV.int x0, DV.list false false 1 l1], DV.agg [DV.int x2, DV.list false false 1 l3]] =
  bindC (ih.call 130 [DV.agg [DV.int x2, DV.list false false 1 l3]]) fun r0 =>
   (bif isRes [{ ag := true, css := [CS.int, CS.list 1] }] r0 then
    bindC (ih.call 97 [DV.agg [DV.int x0, DV.list false false 1 l1],
  DV.agg [DV.int (asI (cellOf r0 0)), DV.list false false 1 (asR (cellOf r0 1))]]) fun r2 =>
     (bif isRes [{ ag := true, css := [CS.int, CS.list 1] }] r2 then
      some (DV.agg [DV.int (asI (cellOf r2 0)), DV.list false false 1 (asR (cellOf r2 1))])
     else none)
   else none) := by kernel_rfl
theorem e132 (ih : VIh) (x0 : Int) (l1 : List DV) (x2 : Int) (l3 : List DV) : callF vt1 ih 132 [DV.agg [DV.int x0, DV.list false false 1 l1], DV.agg [DV.int x2, DV.list false false 1 l3]] =
  bindC (ih.call 155 [DV.agg [DV.int x0, DV.list false false 1 l1], DV.agg [DV.int x2, DV.list false false 1 l3]]) fun r0 =>
   (bif isRes [{ ag := true, css := [CS.int, CS.list 1] }] r0 then
    some (DV.int (asI (cellOf r0 0)))
   else none) := by kernel_rfl
theorem e106 (ih : VIh) (x0 : Int) (l1 : List DV) : callF vt1 ih 106 [DV.agg [DV.int x0, DV.list false false 1 l1]] =
  some (DV.int x0) := by kernel_rfl
theorem e97 (ih : VIh) (x0 : Int) (l1 : List DV) (x2 : Int) (l3 : List DV) : callF vt1 ih 97 [DV.agg [DV.int x0, DV.list false false 1 l1], DV.agg [DV.int x2, DV.list false false 1 l3]] =
  (bif decide (x0 = 0) then
   some (DV.agg [DV.int x2, DV.list false false 1 l3])
  else (bif decide (x2 = 0) then
    some (DV.agg [DV.int x0, DV.list false false 1 l1])
   else (bif decide (x0 = x2) then
     bindC (ih.call 134 [DV.list false false 1 l1, DV.list false false 1 l3]) fun r3 =>
      (bif isRes [{ ag := false, css := [CS.list 1] }] r3 then
       bindC (ih.call 129 [DV.int x0, DV.list false false 1 (asR r3)]) fun r5 =>
        (bif isRes [{ ag := true, css := [CS.int, CS.list 1] }] r5 then
         some (DV.agg [DV.int (asI (cellOf r5 0)), DV.list false false 1 (asR (cellOf r5 1))])
        else none)
      else none)
    else bindC (ih.call 135 [DV.list false false 1 l1, DV.list false false 1 l3]) fun r7 =>
      (bif isRes [{ ag := false, css := [CS.int] }] r7 then
       (bif decide (asI r7 = 0) then
        some (DV.agg [DV.int 0, DV.list false false 1 []])
       else (bif decide (0 < asI r7) then
         bindC (ih.call 136 [DV.list false false 1 l1, DV.list false false 1 l3]) fun r11 =>
          (bif isRes [{ ag := false, css := [CS.list 1] }] r11 then
           bindC (ih.call 129 [DV.int x0, DV.list false false 1 (asR r11)]) fun r13 =>
            (bif isRes [{ ag := true, css := [CS.int, CS.list 1] }] r13 then
            some (DV.agg [DV.int (asI (cellOf r13 0)), DV.list false false 1 (asR (cellOf r13 1))])
            else none)
          else none)
        else bindC (ih.call 136 [DV.list false false 1 l3, DV.list false false 1 l1]) fun r15 =>
          (bif isRes [{ ag := false, css := [CS.list 1] }] r15 then
           bindC (ih.call 129 [DV.int x2, DV.list false false 1 (asR r15)]) fun r17 =>
            (bif isRes [{ ag := true, css := [CS.int, CS.list 1] }] r17 then
            some (DV.agg [DV.int (asI (cellOf r17 0)), DV.list false false 1 (asR (cellOf r17 1))])
            else none)
          else none)))
      else none)))) := by kernel_rfl
theorem e98 (ih : VIh) (x0 : Int) (l1 : List DV) (x2 : Int) (l3 : List DV) : callF vt1 ih 98 [DV.agg [DV.int x0, DV.list false false 1 l1], DV.agg [DV.int x2, DV.list false false 1 l3]] =
  (bif decide (0 ≤ w64 (w64 ((↑l1.length : Int) + (↑l3.length : Int)) + 1)) &&
    decide
      (w64 (w64 ((↑l1.length : Int) + (↑l3.length : Int)) + 1) =
        w64 (w64 ((↑l1.length : Int) + (↑l3.length : Int)) + 1)) &&
  decide (w64 (w64 ((↑l1.length : Int) + (↑l3.length : Int)) + 1) ≤ 1048576) then
   ih.at_ 98 0 (tblL [(2, DV.ptr 0 0), (3, DV.ptr 1 0), (4, DV.ptr 2 0), (5, DV.own 3), (6, DV.int 0)]) [.box [DV.int x0, DV.list false false 1 l1], .box [DV.int x2, DV.list false false 1 l3], .box [DV.int 0, DV.nils], .row false 1 (List.replicate (w64 (w64 ((↑l1.length : Int) + (↑l3.length : Int)) + 1)).toNat (DV.int 0))]
  else none) := by kernel_rfl
theorem e98_0 (ih : VIh) (x0 : Int) (x1 : Int) (l2 : List DV) (x3 : Int) (l4 : List DV) (x5 : Int) (l6 : List DV) : atF vt1 ih 98 0 (tblL [(2, DV.ptr 0 0), (3, DV.ptr 1 0), (4, DV.ptr 2 0), (5, DV.own 3), (6, DV.int x0)]) [VB.box [DV.int x1, DV.list false false 1 l2], VB.box [DV.int x3, DV.list false false 1 l4], VB.box [DV.int x5, DV.nils], VB.row false 1 l6] =
  (bif decide (x0 < (↑l2.length : Int)) then
   ih.at_ 98 1 (tblL [(2, DV.ptr 0 0), (3, DV.ptr 1 0), (4, DV.ptr 2 0), (5, DV.own 3), (6, DV.int x0), (7, DV.int 0), (8, DV.int 0)]) [.box [DV.int x1, DV.list false false 1 l2], .box [DV.int x3, DV.list false false 1 l4], .box [DV.int x5, DV.nils], .row false 1 (l6)]
  else bindC (ih.call 129 [DV.int (w64 (x1 * x3)), DV.list false false 1 l6]) fun r1 =>
    (bif isRes [{ ag := true, css := [CS.int, CS.list 1] }] r1 then
     some (DV.agg [DV.int (asI (cellOf r1 0)), DV.list false false 1 (asR (cellOf r1 1))])
    else none)) := by kernel_rfl
theorem e98_1 (ih : VIh) (x0 : Int) (x1 : Int) (x2 : Int) (x3 : Int) (l4 : List DV) (x5 : Int) (l6 : List DV) (x7 : Int) (l8 : List DV) : atF vt1 ih 98 1 (tblL [(2, DV.ptr 0 0), (3, DV.ptr 1 0), (4, DV.ptr 2 0), (5, DV.own 3), (6, DV.int x0), (7, DV.int x1), (8, DV.int x2)]) [VB.box [DV.int x3, DV.list false false 1 l4], VB.box [DV.int x5, DV.list false false 1 l6], VB.box [DV.int x7, DV.nils], VB.row false 1 l8] =
  (bif decide (x2 < (↑l6.length : Int)) then
   (bif inR (w64 (x0 + x2)) l8 then
    (bif isRow { ag := false, css := [CS.int] } (l8.getD (w64 (x0 + x2)).toNat DV.undef) then
     (bif okR l4 x0 { ag := false, css := [CS.int] } then
      (bif okR l6 x2 { ag := false, css := [CS.int] } then
       (bif inR (w64 (x0 + x2)) l8 then
        ih.at_ 98 1 (tblL [(2, DV.ptr 0 0), (3, DV.ptr 1 0), (4, DV.ptr 2 0), (5, DV.own 3), (6, DV.int x0), (7, DV.int
  (w64
    ((w64
          (w64
            (asI (l8.getD (w64 (x0 + x2)).toNat DV.undef) +
            w64 (asI (l4.getD x0.toNat DV.undef) * asI (l6.getD x2.toNat DV.undef))) +
            x1)).tdiv
      1000000000))), (8, DV.int (w64 (x2 + 1)))]) [.box [DV.int x3, DV.list false false 1 l4], .box [DV.int x5, DV.list false false 1 l6], .box [DV.int x7, DV.nils], .row false 1 (l8.set (w64 (x0 + x2)).toNat
  (DV.int
    ((w64
          (w64
            (asI (l8.getD (w64 (x0 + x2)).toNat DV.undef) +
            w64 (asI (l4.getD x0.toNat DV.undef) * asI (l6.getD x2.toNat DV.undef))) +
            x1)).tmod
      1000000000)))]
       else none)
      else none)
     else none)
    else none)
   else none)
  else (bif inR (w64 (x0 + (↑l6.length : Int))) l8 then
    (bif isRow { ag := false, css := [CS.int] } (l8.getD (w64 (x0 + (↑l6.length : Int))).toNat DV.undef) then
     (bif inR (w64 (x0 + (↑l6.length : Int))) l8 then
      ih.at_ 98 0 (tblL [(2, DV.ptr 0 0), (3, DV.ptr 1 0), (4, DV.ptr 2 0), (5, DV.own 3), (6, DV.int (w64 (x0 + 1)))]) [.box [DV.int x3, DV.list false false 1 l4], .box [DV.int x5, DV.list false false 1 l6], .box [DV.int x7, DV.nils], .row false 1 (l8.set (w64 (x0 + (↑l6.length : Int))).toNat
  (DV.int (w64 (asI (l8.getD (w64 (x0 + (↑l6.length : Int))).toNat DV.undef) + x1))))]
     else none)
    else none)
   else none)) := by kernel_rfl
theorem e154 (ih : VIh) (x0 : Int) (l1 : List DV) : callF vt1 ih 154 [DV.agg [DV.int x0, DV.list false false 1 l1]] =
  (bif decide (x0 < 0) then
   bindC (ih.call 130 [DV.agg [DV.int x0, DV.list false false 1 l1]]) fun r1 =>
    (bif isRes [{ ag := true, css := [CS.int, CS.list 1] }] r1 then
     some (DV.agg [DV.int (asI (cellOf r1 0)), DV.list false false 1 (asR (cellOf r1 1))])
    else none)
  else some (DV.agg [DV.int x0, DV.list false false 1 l1])) := by kernel_rfl
theorem e131 (ih : VIh) (x0 : Int) (l1 : List DV) (x2 : Int) (l3 : List DV) : callF vt1 ih 131 [DV.agg [DV.int x0, DV.list false false 1 l1], DV.agg [DV.int x2, DV.list false false 1 l3]] =
  bindC (ih.call 154 [DV.agg [DV.int x0, DV.list false false 1 l1]]) fun r0 =>
   (bif isRes [{ ag := true, css := [CS.int, CS.list 1] }] r0 then
    bindC (ih.call 154 [DV.agg [DV.int x2, DV.list false false 1 l3]]) fun r2 =>
     (bif isRes [{ ag := true, css := [CS.int, CS.list 1] }] r2 then
      ih.at_ 131 0 (tblL [(2, DV.ptr 0 0), (3, DV.ptr 1 0), (4, DV.ptr 2 0)]) [.box [DV.int (asI (cellOf r0 0)), DV.list false false 1 (asR (cellOf r0 1))], .box [DV.int (asI (cellOf r2 0)), DV.list false false 1 (asR (cellOf r2 1))], .box [DV.int 0, DV.nils]]
     else none)
   else none) := by kernel_rfl
theorem e131_0 (ih : VIh) (x0 : Int) (l1 : List DV) (x2 : Int) (l3 : List DV) (x4 : Int) : atF vt1 ih 131 0 (tblL [(2, DV.ptr 0 0), (3, DV.ptr 1 0), (4, DV.ptr 2 0)]) [VB.box [DV.int x0, DV.list false false 1 l1], VB.box [DV.int x2, DV.list false false 1 l3], VB.box [DV.int x4, DV.nils]] =
  bindC (ih.call 106 [DV.agg [DV.int x2, DV.list false false 1 l3]]) fun r0 =>
   (bif isRes [{ ag := false, css := [CS.int] }] r0 then
    (bif !decide (asI r0 = 0) then
     bindC (ih.call 133 [DV.agg [DV.int x0, DV.list false false 1 l1], DV.agg [DV.int x2, DV.list false false 1 l3]]) fun r3 =>
      (bif isRes [{ ag := true, css := [CS.int, CS.list 1] }] r3 then
       bindC (ih.call 98 [DV.agg [DV.int (asI (cellOf r3 0)), DV.list false false 1 (asR (cellOf r3 1))],
  DV.agg [DV.int x2, DV.list false false 1 l3]]) fun r5 =>
        (bif isRes [{ ag := true, css := [CS.int, CS.list 1] }] r5 then
         bindC (ih.call 155 [DV.agg [DV.int x0, DV.list false false 1 l1],
  DV.agg [DV.int (asI (cellOf r5 0)), DV.list false false 1 (asR (cellOf r5 1))]]) fun r7 =>
          (bif isRes [{ ag := true, css := [CS.int, CS.list 1] }] r7 then
           ih.at_ 131 0 (tblL [(2, DV.ptr 0 0), (3, DV.ptr 1 0), (4, DV.ptr 2 0)]) [.box [DV.int x2, DV.list false false 1 l3], .box [DV.int (asI (cellOf r7 0)), DV.list false false 1 (asR (cellOf r7 1))], .box [DV.int x4, DV.nils]]
          else none)
        else none)
      else none)
    else some (DV.agg [DV.int x0, DV.list false false 1 l1]))
   else none) := by kernel_rfl
theorem e133 (ih : VIh) (x0 : Int) (l1 : List DV) (x2 : Int) (l3 : List DV) : callF vt1 ih 133 [DV.agg [DV.int x0, DV.list false false 1 l1], DV.agg [DV.int x2, DV.list false false 1 l3]] =
  (bif decide (x0 = 0) then
   some (DV.agg [DV.int 0, DV.list false false 1 []])
  else (bif true && decide ((↑l1.length : Int) = (↑l1.length : Int)) && decide ((↑l1.length : Int) ≤ 1048576) then
    ih.at_ 133 0 (tblL [(2, DV.ptr 0 0), (3, DV.ptr 1 0), (4, DV.ptr 2 0), (5, DV.own 3), (6, DV.list false false 1 []), (7, DV.int (w64 ((↑l1.length : Int) - 1)))]) [.box [DV.int x0, DV.list false false 1 l1], .box [DV.int x2, DV.list false false 1 l3], .box [DV.int 0, DV.nils], .row false 1 (List.replicate (↑l1.length : Int).toNat (DV.int 0))]
   else none)) := by kernel_rfl
theorem e133_0 (ih : VIh) (l0 : List DV) (x1 : Int) (x2 : Int) (l3 : List DV) (x4 : Int) (l5 : List DV) (x6 : Int) (l7 : List DV) : atF vt1 ih 133 0 (tblL [(2, DV.ptr 0 0), (3, DV.ptr 1 0), (4, DV.ptr 2 0), (5, DV.own 3), (6, DV.list false false 1 l0), (7, DV.int x1)]) [VB.box [DV.int x2, DV.list false false 1 l3], VB.box [DV.int x4, DV.list false false 1 l5], VB.box [DV.int x6, DV.nils], VB.row false 1 l7] =
  (bif decide (0 ≤ x1) then
   (bif okR l3 x1 { ag := false, css := [CS.int] } then
    (bif lenOk [DV.int (asI (l3.getD x1.toNat DV.undef))] l0 then
     bindC (ih.call 153 [DV.list false false 1 (DV.int (asI (l3.getD x1.toNat DV.undef)) :: l0)]) fun r3 =>
      (bif isRes [{ ag := false, css := [CS.list 1] }] r3 then
       ih.at_ 133 1 (tblL [(2, DV.ptr 0 0), (3, DV.ptr 1 0), (4, DV.ptr 2 0), (5, DV.own 3), (6, DV.list false false 1 (asR r3)), (7, DV.int x1), (8, DV.int 0), (9, DV.int 999999999)]) [.box [DV.int x2, DV.list false false 1 l3], .box [DV.int x4, DV.list false false 1 l5], .box [DV.int x6, DV.nils], .row false 1 (l7)]
      else none)
    else none)
   else none)
  else bindC (ih.call 129 [DV.int x2, DV.list false false 1 l7]) fun r5 =>
    (bif isRes [{ ag := true, css := [CS.int, CS.list 1] }] r5 then
     (bif decide (x2 < 0) then
      (bif decide (0 < (↑l0.length : Int)) then
       bindC (ih.call 95 [DV.int 1]) fun r9 =>
        (bif isRes [{ ag := true, css := [CS.int, CS.list 1] }] r9 then
         bindC (ih.call 155 [DV.agg [DV.int (asI (cellOf r5 0)), DV.list false false 1 (asR (cellOf r5 1))],
  DV.agg [DV.int (asI (cellOf r9 0)), DV.list false false 1 (asR (cellOf r9 1))]]) fun r11 =>
          (bif isRes [{ ag := true, css := [CS.int, CS.list 1] }] r11 then
           some (DV.agg [DV.int (asI (cellOf r11 0)), DV.list false false 1 (asR (cellOf r11 1))])
          else none)
        else none)
      else some (DV.agg [DV.int (asI (cellOf r5 0)), DV.list false false 1 (asR (cellOf r5 1))]))
     else some (DV.agg [DV.int (asI (cellOf r5 0)), DV.list false false 1 (asR (cellOf r5 1))]))
    else none)) := by kernel_rfl
theorem e133_1 (ih : VIh) (l0 : List DV) (x1 : Int) (x2 : Int) (x3 : Int) (x4 : Int) (l5 : List DV) (x6 : Int) (l7 : List DV) (x8 : Int) (l9 : List DV) : atF vt1 ih 133 1 (tblL [(2, DV.ptr 0 0), (3, DV.ptr 1 0), (4, DV.ptr 2 0), (5, DV.own 3), (6, DV.list false false 1 l0), (7, DV.int x1), (8, DV.int x2), (9, DV.int x3)]) [VB.box [DV.int x4, DV.list false false 1 l5], VB.box [DV.int x6, DV.list false false 1 l7], VB.box [DV.int x8, DV.nils], VB.row false 1 l9] =
  (bif decide (x2 < x3) then
   bindC (ih.call 129 [DV.int 1, DV.list false false 1 l7]) fun r1 =>
    (bif isRes [{ ag := true, css := [CS.int, CS.list 1] }] r1 then
     bindC (ih.call 95 [DV.int (w64 ((w64 (w64 (x2 + x3) + 1)).tdiv 2))]) fun r3 =>
      (bif isRes [{ ag := true, css := [CS.int, CS.list 1] }] r3 then
       bindC (ih.call 98 [DV.agg [DV.int (asI (cellOf r1 0)), DV.list false false 1 (asR (cellOf r1 1))],
  DV.agg [DV.int (asI (cellOf r3 0)), DV.list false false 1 (asR (cellOf r3 1))]]) fun r5 =>
        (bif isRes [{ ag := true, css := [CS.int, CS.list 1] }] r5 then
         bindC (ih.call 135 [DV.list false false 1 (asR (cellOf r5 1)), DV.list false false 1 l0]) fun r7 =>
          (bif isRes [{ ag := false, css := [CS.int] }] r7 then
           (bif decide (asI r7 ≤ 0) then
            ih.at_ 133 1 (tblL [(2, DV.ptr 0 0), (3, DV.ptr 1 0), (4, DV.ptr 2 0), (5, DV.own 3), (6, DV.list false false 1 l0), (7, DV.int x1), (8, DV.int (w64 ((w64 (w64 (x2 + x3) + 1)).tdiv 2))), (9, DV.int x3)]) [.box [DV.int x4, DV.list false false 1 l5], .box [DV.int x6, DV.list false false 1 l7], .box [DV.int x8, DV.nils], .row false 1 (l9)]
           else ih.at_ 133 1 (tblL [(2, DV.ptr 0 0), (3, DV.ptr 1 0), (4, DV.ptr 2 0), (5, DV.own 3), (6, DV.list false false 1 l0), (7, DV.int x1), (8, DV.int x2), (9, DV.int (w64 (w64 ((w64 (w64 (x2 + x3) + 1)).tdiv 2) - 1)))]) [.box [DV.int x4, DV.list false false 1 l5], .box [DV.int x6, DV.list false false 1 l7], .box [DV.int x8, DV.nils], .row false 1 (l9)])
          else none)
        else none)
      else none)
    else none)
  else (bif inR x1 l9 then
    bindC (ih.call 129 [DV.int 1, DV.list false false 1 l7]) fun r11 =>
     (bif isRes [{ ag := true, css := [CS.int, CS.list 1] }] r11 then
      bindC (ih.call 95 [DV.int x2]) fun r13 =>
       (bif isRes [{ ag := true, css := [CS.int, CS.list 1] }] r13 then
        bindC (ih.call 98 [DV.agg [DV.int (asI (cellOf r11 0)), DV.list false false 1 (asR (cellOf r11 1))],
  DV.agg [DV.int (asI (cellOf r13 0)), DV.list false false 1 (asR (cellOf r13 1))]]) fun r15 =>
         (bif isRes [{ ag := true, css := [CS.int, CS.list 1] }] r15 then
          bindC (ih.call 136 [DV.list false false 1 l0, DV.list false false 1 (asR (cellOf r15 1))]) fun r17 =>
           (bif isRes [{ ag := false, css := [CS.list 1] }] r17 then
            ih.at_ 133 0 (tblL [(2, DV.ptr 0 0), (3, DV.ptr 1 0), (4, DV.ptr 2 0), (5, DV.own 3), (6, DV.list false false 1 (asR r17)), (7, DV.int (w64 (x1 - 1)))]) [.box [DV.int x4, DV.list false false 1 l5], .box [DV.int x6, DV.list false false 1 l7], .box [DV.int x8, DV.nils], .row false 1 (l9.set x1.toNat (DV.int x2))]
           else none)
         else none)
       else none)
     else none)
   else none)) := by kernel_rfl
theorem e96 (ih : VIh) (x0 : Int) (l1 : List DV) (x2 : Int) (l3 : List DV) : callF vt1 ih 96 [DV.agg [DV.int x0, DV.list false false 1 l1], DV.agg [DV.int x2, DV.list false false 1 l3]] =
  bindC (ih.call 106 [DV.agg [DV.int x2, DV.list false false 1 l3]]) fun r0 =>
   (bif isRes [{ ag := false, css := [CS.int] }] r0 then
    (bif decide (asI r0 < 0) then
     bindC (ih.call 130 [DV.agg [DV.int x0, DV.list false false 1 l1]]) fun r3 =>
      (bif isRes [{ ag := true, css := [CS.int, CS.list 1] }] r3 then
       bindC (ih.call 130 [DV.agg [DV.int x2, DV.list false false 1 l3]]) fun r5 =>
        (bif isRes [{ ag := true, css := [CS.int, CS.list 1] }] r5 then
         bindC (ih.call 131 [DV.agg [DV.int (asI (cellOf r3 0)), DV.list false false 1 (asR (cellOf r3 1))],
  DV.agg [DV.int (asI (cellOf r5 0)), DV.list false false 1 (asR (cellOf r5 1))]]) fun r7 =>
          (bif isRes [{ ag := true, css := [CS.int, CS.list 1] }] r7 then
           bindC (ih.call 95 [DV.int 1]) fun r9 =>
            (bif isRes [{ ag := true, css := [CS.int, CS.list 1] }] r9 then
            bindC (ih.call 132 [DV.agg [DV.int (asI (cellOf r7 0)), DV.list false false 1 (asR (cellOf r7 1))],
  DV.agg [DV.int (asI (cellOf r9 0)), DV.list false false 1 (asR (cellOf r9 1))]]) fun r11 =>
            (bif isRes [{ ag := false, css := [CS.int] }] r11 then
            (bif decide (asI r11 = 0) then
            some (DV.agg
  [DV.int (asI (cellOf r3 0)), DV.list false false 1 (asR (cellOf r3 1)), DV.int (asI (cellOf r5 0)),
    DV.list false false 1 (asR (cellOf r5 1))])
            else bindC (ih.call 133 [DV.agg [DV.int (asI (cellOf r3 0)), DV.list false false 1 (asR (cellOf r3 1))],
  DV.agg [DV.int (asI (cellOf r7 0)), DV.list false false 1 (asR (cellOf r7 1))]]) fun r14 =>
            (bif isRes [{ ag := true, css := [CS.int, CS.list 1] }] r14 then
            bindC (ih.call 133 [DV.agg [DV.int (asI (cellOf r5 0)), DV.list false false 1 (asR (cellOf r5 1))],
  DV.agg [DV.int (asI (cellOf r7 0)), DV.list false false 1 (asR (cellOf r7 1))]]) fun r16 =>
            (bif isRes [{ ag := true, css := [CS.int, CS.list 1] }] r16 then
            some (DV.agg
  [DV.int (asI (cellOf r14 0)), DV.list false false 1 (asR (cellOf r14 1)), DV.int (asI (cellOf r16 0)),
    DV.list false false 1 (asR (cellOf r16 1))])
            else none)
            else none))
            else none)
            else none)
          else none)
        else none)
      else none)
    else bindC (ih.call 131 [DV.agg [DV.int x0, DV.list false false 1 l1], DV.agg [DV.int x2, DV.list false false 1 l3]]) fun r18 =>
      (bif isRes [{ ag := true, css := [CS.int, CS.list 1] }] r18 then
       bindC (ih.call 95 [DV.int 1]) fun r20 =>
        (bif isRes [{ ag := true, css := [CS.int, CS.list 1] }] r20 then
         bindC (ih.call 132 [DV.agg [DV.int (asI (cellOf r18 0)), DV.list false false 1 (asR (cellOf r18 1))],
  DV.agg [DV.int (asI (cellOf r20 0)), DV.list false false 1 (asR (cellOf r20 1))]]) fun r22 =>
          (bif isRes [{ ag := false, css := [CS.int] }] r22 then
           (bif decide (asI r22 = 0) then
            some (DV.agg [DV.int x0, DV.list false false 1 l1, DV.int x2, DV.list false false 1 l3])
           else bindC (ih.call 133 [DV.agg [DV.int x0, DV.list false false 1 l1],
  DV.agg [DV.int (asI (cellOf r18 0)), DV.list false false 1 (asR (cellOf r18 1))]]) fun r25 =>
            (bif isRes [{ ag := true, css := [CS.int, CS.list 1] }] r25 then
            bindC (ih.call 133 [DV.agg [DV.int x2, DV.list false false 1 l3],
  DV.agg [DV.int (asI (cellOf r18 0)), DV.list false false 1 (asR (cellOf r18 1))]]) fun r27 =>
            (bif isRes [{ ag := true, css := [CS.int, CS.list 1] }] r27 then
            some (DV.agg
  [DV.int (asI (cellOf r25 0)), DV.list false false 1 (asR (cellOf r25 1)), DV.int (asI (cellOf r27 0)),
    DV.list false false 1 (asR (cellOf r27 1))])
            else none)
            else none))
          else none)
        else none)
      else none))
   else none) := by kernel_rfl
theorem e54 (ih : VIh) (x0 : Int) (x1 : Int) : callF vt1 ih 54 [DV.int x0, DV.int x1] =
  bindC (ih.call 95 [DV.int x0]) fun r0 =>
   (bif isRes [{ ag := true, css := [CS.int, CS.list 1] }] r0 then
    bindC (ih.call 95 [DV.int x1]) fun r2 =>
     (bif isRes [{ ag := true, css := [CS.int, CS.list 1] }] r2 then
      bindC (ih.call 96 [DV.agg [DV.int (asI (cellOf r0 0)), DV.list false false 1 (asR (cellOf r0 1))],
  DV.agg [DV.int (asI (cellOf r2 0)), DV.list false false 1 (asR (cellOf r2 1))]]) fun r4 =>
       (bif isRes [{ ag := true, css := [CS.int, CS.list 1, CS.int, CS.list 1] }] r4 then
        some (DV.agg
  [DV.int (asI (cellOf r4 0)), DV.list false false 1 (asR (cellOf r4 1)), DV.int (asI (cellOf r4 2)),
    DV.list false false 1 (asR (cellOf r4 3))])
       else none)
     else none)
   else none) := by kernel_rfl
theorem e52 (ih : VIh) (x0 : Int) : callF vt1 ih 52 [DV.int x0] =
  bindC (ih.call 95 [DV.int x0]) fun r0 =>
   (bif isRes [{ ag := true, css := [CS.int, CS.list 1] }] r0 then
    bindC (ih.call 95 [DV.int 1]) fun r2 =>
     (bif isRes [{ ag := true, css := [CS.int, CS.list 1] }] r2 then
      some (DV.agg
  [DV.int (asI (cellOf r0 0)), DV.list false false 1 (asR (cellOf r0 1)), DV.int (asI (cellOf r2 0)),
    DV.list false false 1 (asR (cellOf r2 1))])
     else none)
   else none) := by kernel_rfl
theorem e53 (ih : VIh) (x0 : Int) (l1 : List DV) (x2 : Int) (l3 : List DV) (x4 : Int) (l5 : List DV) (x6 : Int) (l7 : List DV) : callF vt1 ih 53 [DV.agg [DV.int x0, DV.list false false 1 l1, DV.int x2, DV.list false false 1 l3],
  DV.agg [DV.int x4, DV.list false false 1 l5, DV.int x6, DV.list false false 1 l7]] =
  bindC (ih.call 98 [DV.agg [DV.int x0, DV.list false false 1 l1], DV.agg [DV.int x6, DV.list false false 1 l7]]) fun r0 =>
   (bif isRes [{ ag := true, css := [CS.int, CS.list 1] }] r0 then
    bindC (ih.call 98 [DV.agg [DV.int x4, DV.list false false 1 l5], DV.agg [DV.int x2, DV.list false false 1 l3]]) fun r2 =>
     (bif isRes [{ ag := true, css := [CS.int, CS.list 1] }] r2 then
      bindC (ih.call 97 [DV.agg [DV.int (asI (cellOf r0 0)), DV.list false false 1 (asR (cellOf r0 1))],
  DV.agg [DV.int (asI (cellOf r2 0)), DV.list false false 1 (asR (cellOf r2 1))]]) fun r4 =>
       (bif isRes [{ ag := true, css := [CS.int, CS.list 1] }] r4 then
        bindC (ih.call 98 [DV.agg [DV.int x2, DV.list false false 1 l3], DV.agg [DV.int x6, DV.list false false 1 l7]]) fun r6 =>
         (bif isRes [{ ag := true, css := [CS.int, CS.list 1] }] r6 then
          bindC (ih.call 96 [DV.agg [DV.int (asI (cellOf r4 0)), DV.list false false 1 (asR (cellOf r4 1))],
  DV.agg [DV.int (asI (cellOf r6 0)), DV.list false false 1 (asR (cellOf r6 1))]]) fun r8 =>
           (bif isRes [{ ag := true, css := [CS.int, CS.list 1, CS.int, CS.list 1] }] r8 then
            some (DV.agg
  [DV.int (asI (cellOf r8 0)), DV.list false false 1 (asR (cellOf r8 1)), DV.int (asI (cellOf r8 2)),
    DV.list false false 1 (asR (cellOf r8 3))])
           else none)
         else none)
       else none)
     else none)
   else none) := by kernel_rfl
theorem e65 (ih : VIh) (x0 : Int) (l1 : List DV) (x2 : Int) (l3 : List DV) (x4 : Int) (l5 : List DV) (x6 : Int) (l7 : List DV) : callF vt1 ih 65 [DV.agg [DV.int x0, DV.list false false 1 l1, DV.int x2, DV.list false false 1 l3],
  DV.agg [DV.int x4, DV.list false false 1 l5, DV.int x6, DV.list false false 1 l7]] =
  bindC (ih.call 105 [DV.agg [DV.int x4, DV.list false false 1 l5, DV.int x6, DV.list false false 1 l7]]) fun r0 =>
   (bif isRes [{ ag := true, css := [CS.int, CS.list 1, CS.int, CS.list 1] }] r0 then
    bindC (ih.call 53 [DV.agg [DV.int x0, DV.list false false 1 l1, DV.int x2, DV.list false false 1 l3],
  DV.agg
    [DV.int (asI (cellOf r0 0)), DV.list false false 1 (asR (cellOf r0 1)), DV.int (asI (cellOf r0 2)),
      DV.list false false 1 (asR (cellOf r0 3))]]) fun r2 =>
     (bif isRes [{ ag := true, css := [CS.int, CS.list 1, CS.int, CS.list 1] }] r2 then
      some (DV.agg
  [DV.int (asI (cellOf r2 0)), DV.list false false 1 (asR (cellOf r2 1)), DV.int (asI (cellOf r2 2)),
    DV.list false false 1 (asR (cellOf r2 3))])
     else none)
   else none) := by kernel_rfl
theorem e67 (ih : VIh) (x0 : Int) (l1 : List DV) (x2 : Int) (l3 : List DV) (x4 : Int) (l5 : List DV) (x6 : Int) (l7 : List DV) : callF vt1 ih 67 [DV.agg [DV.int x0, DV.list false false 1 l1, DV.int x2, DV.list false false 1 l3],
  DV.agg [DV.int x4, DV.list false false 1 l5, DV.int x6, DV.list false false 1 l7]] =
  bindC (ih.call 98 [DV.agg [DV.int x0, DV.list false false 1 l1], DV.agg [DV.int x4, DV.list false false 1 l5]]) fun r0 =>
   (bif isRes [{ ag := true, css := [CS.int, CS.list 1] }] r0 then
    bindC (ih.call 98 [DV.agg [DV.int x2, DV.list false false 1 l3], DV.agg [DV.int x6, DV.list false false 1 l7]]) fun r2 =>
     (bif isRes [{ ag := true, css := [CS.int, CS.list 1] }] r2 then
      bindC (ih.call 96 [DV.agg [DV.int (asI (cellOf r0 0)), DV.list false false 1 (asR (cellOf r0 1))],
  DV.agg [DV.int (asI (cellOf r2 0)), DV.list false false 1 (asR (cellOf r2 1))]]) fun r4 =>
       (bif isRes [{ ag := true, css := [CS.int, CS.list 1, CS.int, CS.list 1] }] r4 then
        some (DV.agg
  [DV.int (asI (cellOf r4 0)), DV.list false false 1 (asR (cellOf r4 1)), DV.int (asI (cellOf r4 2)),
    DV.list false false 1 (asR (cellOf r4 3))])
       else none)
     else none)
   else none) := by kernel_rfl
theorem e68 (ih : VIh) (x0 : Int) (l1 : List DV) (x2 : Int) (l3 : List DV) (x4 : Int) (l5 : List DV) (x6 : Int) (l7 : List DV) : callF vt1 ih 68 [DV.agg [DV.int x0, DV.list false false 1 l1, DV.int x2, DV.list false false 1 l3],
  DV.agg [DV.int x4, DV.list false false 1 l5, DV.int x6, DV.list false false 1 l7]] =
  bindC (ih.call 98 [DV.agg [DV.int x0, DV.list false false 1 l1], DV.agg [DV.int x6, DV.list false false 1 l7]]) fun r0 =>
   (bif isRes [{ ag := true, css := [CS.int, CS.list 1] }] r0 then
    bindC (ih.call 98 [DV.agg [DV.int x2, DV.list false false 1 l3], DV.agg [DV.int x4, DV.list false false 1 l5]]) fun r2 =>
     (bif isRes [{ ag := true, css := [CS.int, CS.list 1] }] r2 then
      bindC (ih.call 96 [DV.agg [DV.int (asI (cellOf r0 0)), DV.list false false 1 (asR (cellOf r0 1))],
  DV.agg [DV.int (asI (cellOf r2 0)), DV.list false false 1 (asR (cellOf r2 1))]]) fun r4 =>
       (bif isRes [{ ag := true, css := [CS.int, CS.list 1, CS.int, CS.list 1] }] r4 then
        some (DV.agg
  [DV.int (asI (cellOf r4 0)), DV.list false false 1 (asR (cellOf r4 1)), DV.int (asI (cellOf r4 2)),
    DV.list false false 1 (asR (cellOf r4 3))])
       else none)
     else none)
   else none) := by kernel_rfl
theorem e105 (ih : VIh) (x0 : Int) (l1 : List DV) (x2 : Int) (l3 : List DV) : callF vt1 ih 105 [DV.agg [DV.int x0, DV.list false false 1 l1, DV.int x2, DV.list false false 1 l3]] =
  bindC (ih.call 130 [DV.agg [DV.int x0, DV.list false false 1 l1]]) fun r0 =>
   (bif isRes [{ ag := true, css := [CS.int, CS.list 1] }] r0 then
    some (DV.agg [DV.int (asI (cellOf r0 0)), DV.list false false 1 (asR (cellOf r0 1)), DV.int x2, DV.list false false 1 l3])
   else none) := by kernel_rfl
theorem e69 (ih : VIh) (x0 : Int) (l1 : List DV) (x2 : Int) (l3 : List DV) : callF vt1 ih 69 [DV.agg [DV.int x0, DV.list false false 1 l1, DV.int x2, DV.list false false 1 l3]] =
  bindC (ih.call 106 [DV.agg [DV.int x0, DV.list false false 1 l1]]) fun r0 =>
   (bif isRes [{ ag := false, css := [CS.int] }] r0 then
    some (DV.int (asI r0))
   else none) := by kernel_rfl
theorem e103 (ih : VIh) (x0 : Int) (l1 : List DV) (x2 : Int) (l3 : List DV) : callF vt1 ih 103 [DV.agg [DV.int x0, DV.list false false 1 l1, DV.int x2, DV.list false false 1 l3]] =
  bindC (ih.call 133 [DV.agg [DV.int x0, DV.list false false 1 l1], DV.agg [DV.int x2, DV.list false false 1 l3]]) fun r0 =>
   (bif isRes [{ ag := true, css := [CS.int, CS.list 1] }] r0 then
    some (DV.agg [DV.int (asI (cellOf r0 0)), DV.list false false 1 (asR (cellOf r0 1))])
   else none) := by kernel_rfl
theorem e99 (ih : VIh) (x0 : Int) (l1 : List DV) : callF vt1 ih 99 [DV.agg [DV.int x0, DV.list false false 1 l1]] =
  (bif decide (3 < (↑l1.length : Int)) then
   some (DV.tup [DV.int 0, DV.bool false])
  else (bif decide ((↑l1.length : Int) = 3) then
    (bif okR l1 2 { ag := false, css := [CS.int] } then
     (bif decide (8 < asI (l1.getD 2 DV.undef)) then
      some (DV.tup [DV.int 0, DV.bool false])
     else ih.at_ 99 0 (tblL [(1, DV.ptr 0 0), (4, DV.int 0), (5, DV.int (w64 ((↑l1.length : Int) - 1)))]) [.box [DV.int x0, DV.list false false 1 l1]])
    else none)
   else ih.at_ 99 0 (tblL [(1, DV.ptr 0 0), (4, DV.int 0), (5, DV.int (w64 ((↑l1.length : Int) - 1)))]) [.box [DV.int x0, DV.list false false 1 l1]])) := by kernel_rfl
theorem e99_0 (ih : VIh) (x0 : Int) (x1 : Int) (x2 : Int) (l3 : List DV) : atF vt1 ih 99 0 (tblL [(1, DV.ptr 0 0), (4, DV.int x0), (5, DV.int x1)]) [VB.box [DV.int x2, DV.list false false 1 l3]] =
  (bif decide (0 ≤ x1) then
   (bif okR l3 x1 { ag := false, css := [CS.int] } then
    ih.at_ 99 0 (tblL [(1, DV.ptr 0 0), (4, DV.int (w64 (w64 (x0 * 1000000000) + asI (l3.getD x1.toNat DV.undef)))), (5, DV.int (w64 (x1 - 1)))]) [.box [DV.int x2, DV.list false false 1 l3]]
   else none)
  else some (DV.tup [DV.int (w64 (x2 * x0)), DV.bool true])) := by kernel_rfl
theorem e100 (ih : VIh) (x0 : Int) (x1 : Int) : callF vt1 ih 100 [DV.agg [DV.int x0, DV.int x1]] =
  bindC (ih.call 50 [DV.int x0, DV.int (-1000000000), DV.int 1000000000]) fun r0 =>
   (bif isRes [{ ag := false, css := [CS.bool] }] r0 then
    (bif asB r0 then
     bindC (ih.call 50 [DV.int x1, DV.int 1, DV.int 1000000000]) fun r3 =>
      (bif isRes [{ ag := false, css := [CS.bool] }] r3 then
       some (DV.bool (asB r3))
      else none)
    else some (DV.bool false))
   else none) := by kernel_rfl
theorem e55 (ih : VIh) (x0 : Int) (l1 : List DV) (x2 : Int) (l3 : List DV) : callF vt1 ih 55 [DV.agg [DV.int x0, DV.list false false 1 l1, DV.int x2, DV.list false false 1 l3]] =
  bindC (ih.call 99 [DV.agg [DV.int x0, DV.list false false 1 l1]]) fun r0 =>
   (bif isRes [{ ag := false, css := [CS.int] }, { ag := false, css := [CS.bool] }] r0 then
    bindC (ih.call 99 [DV.agg [DV.int x2, DV.list false false 1 l3]]) fun r2 =>
     (bif isRes [{ ag := false, css := [CS.int] }, { ag := false, css := [CS.bool] }] r2 then
      (bif !asB ((tupL r0).getD 1 DV.undef) then
       some (DV.tup [DV.agg [DV.int 0, DV.int 0], DV.bool false])
      else (bif !asB ((tupL r2).getD 1 DV.undef) then
        some (DV.tup [DV.agg [DV.int 0, DV.int 0], DV.bool false])
       else bindC (ih.call 100 [DV.agg [DV.int (asI ((tupL r0).getD 0 DV.undef)), DV.int (asI ((tupL r2).getD 0 DV.undef))]]) fun r6 =>
         (bif isRes [{ ag := false, css := [CS.bool] }] r6 then
          (bif !asB r6 then
           some (DV.tup [DV.agg [DV.int 0, DV.int 0], DV.bool false])
          else some (DV.tup [DV.agg [DV.int (asI ((tupL r0).getD 0 DV.undef)), DV.int (asI ((tupL r2).getD 0 DV.undef))], DV.bool true]))
         else none)))
     else none)
   else none) := by kernel_rfl
theorem e50 (ih : VIh) (x0 : Int) (x1 : Int) (x2 : Int) : callF vt1 ih 50 [DV.int x0, DV.int x1, DV.int x2] =
  (bif decide (x1 ≤ x0) then
   some (DV.bool (decide (x0 ≤ x2)))
  else some (DV.bool false)) := by kernel_rfl
theorem e104 (ih : VIh) (x0 : Int) (x1 : Int) : callF vt1 ih 104 [DV.int x0, DV.int x1] =
  ih.at_ 104 0 (tblL [(0, DV.int x0), (1, DV.int x1)]) [] := by kernel_rfl
theorem e104_0 (ih : VIh) (x0 : Int) (x1 : Int) : atF vt1 ih 104 0 (tblL [(0, DV.int x0), (1, DV.int x1)]) [] =
  (bif !decide (x1 = 0) then
   (bif decide (x1 = 0) then
    none
   else ih.at_ 104 0 (tblL [(0, DV.int x1), (1, DV.int (x0.tmod x1))]) [])
  else bindC (ih.call 128 [DV.int x0]) fun r2 =>
    (bif isRes [{ ag := false, css := [CS.int] }] r2 then
     some (DV.int (asI r2))
    else none)) := by kernel_rfl
theorem e64 (ih : VIh) (x0 : Int) (x1 : Int) : callF vt1 ih 64 [DV.agg [DV.int x0, DV.int x1]] =
  (bif decide (0 < x1) then
   bindC (ih.call 104 [DV.int x0, DV.int x1]) fun r1 =>
    (bif isRes [{ ag := false, css := [CS.int] }] r1 then
     some (DV.bool (decide (asI r1 = 1)))
    else none)
  else some (DV.bool false)) := by kernel_rfl
theorem e28 (ih : VIh) (x0 : Int) (x1 : Int) : callF vt1 ih 28 [DV.agg [DV.int x0, DV.int x1]] =
  bindC (ih.call 54 [DV.int x0, DV.int x1]) fun r0 =>
   (bif isRes [{ ag := true, css := [CS.int, CS.list 1, CS.int, CS.list 1] }] r0 then
    some (DV.agg
  [DV.int (asI (cellOf r0 0)), DV.list false false 1 (asR (cellOf r0 1)), DV.int (asI (cellOf r0 2)),
    DV.list false false 1 (asR (cellOf r0 3))])
   else none) := by kernel_rfl
theorem e13 (ih : VIh) (l0 : List DV) (l1 : List DV) : callF vt1 ih 13 [DV.list true false 1 l0, DV.list true false 1 l1] =
  (bif !decide ((↑l0.length : Int) = (↑l1.length : Int)) then
   some (DV.bool false)
  else ih.at_ 13 0 (tblL [(0, DV.list true false 1 l0), (1, DV.list true false 1 l1), (5, DV.int 0)]) []) := by kernel_rfl
theorem e13_0 (ih : VIh) (l0 : List DV) (l1 : List DV) (x2 : Int) : atF vt1 ih 13 0 (tblL [(0, DV.list true false 1 l0), (1, DV.list true false 1 l1), (5, DV.int x2)]) [] =
  (bif decide (x2 < (↑l0.length : Int)) then
   (bif okR l0 x2 { ag := false, css := [CS.int] } then
    (bif okR l1 x2 { ag := false, css := [CS.int] } then
     (bif !decide (asI (l0.getD x2.toNat DV.undef) = asI (l1.getD x2.toNat DV.undef)) then
      some (DV.bool false)
     else ih.at_ 13 0 (tblL [(0, DV.list true false 1 l0), (1, DV.list true false 1 l1), (5, DV.int (w64 (x2 + 1)))]) [])
    else none)
   else none)
  else some (DV.bool true)) := by kernel_rfl
theorem e17 (ih : VIh) (l0 : List DV) : callF vt1 ih 17 [DV.list true false 1 l0] =
  (bif lenOk [] l0 then
   some (DV.list false false 1 ([] ++ l0))
  else none) := by kernel_rfl
end Go.Proofs
/- Contracts of wide numbers: digits. -/
namespace Go.Proofs
open Go Go.Sx Go.Vx
set_option maxRecDepth 100000
theorem at153 {l : List Int} (hl : Dg l) (hb : l.length ≤ 1048576) : ∀ k : Nat, k ≤ l.length → AtV vt1 153 0 (tblL [(0, L l), (3, .int (k : Int))]) [] (L (digits (val (l.take k)).toNat))
  | 0, _ => AtV.by (fun ih => e153_0 ih _ _) (EvR.no (by simp) (EvR.yes (by simp) (EvR.ret' (by simp [val, digits_zero, L]))))
  | k + 1, hk => by
    have hw : w64 (((k + 1 : Nat) : Int) - 1) = (k : Int) := by rw [w64_id (by omega) (by omega)]; omega
    refine AtV.by (fun ih => e153_0 ih _ _) ?_
    rw [hw, asI_ints]
    have ht : l.take (k + 1) = l.take k ++ [l.getD k 0] := by
      rw [List.take_add_one, List.getD_eq_getElem?_getD, List.getElem?_eq_getElem (by omega)]; rfl
    refine EvR.yes (by simp) (EvR.yes (okR_ok (by omega) (by omega)) (EvR.cond (fun h => ?_) (fun h => ?_)))
    · simp only [Int.toNat_natCast, decide_eq_true_eq] at h
      rw [ht, h, val_snoc0]
      exact at153 hl hb k (by omega)
    · simp only [Int.toNat_natCast, decide_eq_false_iff_not] at h
      refine EvR.yes (by simp; omega) (EvR.ret' ?_)
      have hd : Dg (l.take (k + 1)) := fun d hd => hl d (List.mem_of_mem_take hd)
      rw [ints_take, Int.toNat_natCast]
      have hT : Top (l.take (k + 1)) := by rw [ht]; exact Top_snoc _ h
      rw [digits_val hd hT]
theorem c153 {l : List Int} (hl : Dg l) (hb : l.length ≤ 1048576) : CallV vt1 153 [L l] (L (digits (val l).toNat)) := by
  refine CallV.by (fun ih => e153 ih _) ?_
  have := at153 hl hb l.length (by omega)
  rw [List.take_length] at this
  simp only [List.length_map]
  exact this
/-- wideOf. -/
theorem c129 {l : List Int} (s : Int) (hl : Dg l) (hb : l.length ≤ 1048576) : CallV vt1 129 [.int s, L l] (aggW (if val l = 0 then 0 else s) (digits (val l).toNat)) := by
  have hv := val_nonneg hl
  refine CallV.by (fun ih => e129 ih _ _) (EvR.call (c153 hl hb) (EvR.yes (isRes_L _) (EvR.cond (fun h => ?_) (fun h => ?_))))
  · refine EvR.ret' ?_
    have : digits (val l).toNat = [] := by simpa using h
    have h0 : val l = 0 := by
      have e := val_digits (val l).toNat
      rw [this] at e
      simp only [val] at e; omega
    rw [if_pos h0]; rfl
  · refine EvR.ret' ?_
    have h0 : val l ≠ 0 := by
      intro e
      rw [e] at h
      simp [digits_zero] at h
    rw [if_neg h0]; rfl
theorem c128 {n : Int} (h1 : -9223372036854775807 ≤ n) (h2 : n ≤ 9223372036854775807) : CallV vt1 128 [.int n] (.int n.natAbs) := by
  refine CallV.by (fun ih => e128 ih _) (EvR.ret' ?_)
  rw [w64_id (by omega) (by omega)]
  congr 1
  omega
theorem W_of (n : Int) : aggW (if n = 0 then 0 else if n < 0 then -1 else 1) (digits n.natAbs) = W n := by
  unfold W
  congr 3
  by_cases h : n = 0
  · subst h; rfl
  · by_cases h' : n < 0
    · rw [if_neg h, if_pos h', Int.sign_eq_neg_one_of_neg h']
    · rw [if_neg h, if_neg h', Int.sign_eq_one_of_pos (by omega)]
theorem at95 (s y : Int) : ∀ (k : Nat) (n : Int) (l : List Int), n.natAbs < 1000000000 ^ k → l.length + k ≤ 1000 → -9223372036854775807 ≤ n → n ≤ 9223372036854775807 → Dg l →
    AtV vt1 95 0 (tblL [(0, .int n), (2, .ptr 0 0), (3, .int s), (4, .own 1)]) [.box [.int y, .nils], .row true 1 (ints l)]
      (aggW (if val (l ++ digits n.natAbs) = 0 then 0 else s) (digits (val (l ++ digits n.natAbs)).toNat))
  | k, n, l, hk, hb, h1, h2, hl => by
    refine AtV.by (fun ih => e95_0 ih _ _ _ _) ?_
    by_cases h0 : n = 0
    · subst h0
      refine EvR.no (by simp) (EvR.call (c129 s hl (by omega)) (EvR.yes (isRes_W _ _) (EvR.ret' ?_)))
      simp [digits_zero]
    · have hm : (n.tmod 1000000000).natAbs = n.natAbs % 1000000000 := by
        rw [Int.natAbs_tmod]; rfl
      have hq : (n.tdiv 1000000000).natAbs = n.natAbs / 1000000000 := by
        rw [Int.natAbs_tdiv]; rfl
      cases k with
      | zero => exact absurd hk (by simp; omega)
      | succ k =>
        have hd : digits n.natAbs = ((n.natAbs % 1000000000 : Nat) : Int) :: digits (n.tdiv 1000000000).natAbs := by
          rw [digits_pos (by omega), hq]
        refine EvR.yes (by simp [h0]) (EvR.call (c128 (by omega) (by omega)) (EvR.yes (isRes_int _) (EvR.yes (lenOk_ints (by simp; omega)) ?_)))
        rw [w64_id (by omega) (by omega), asI_int, ints_snoc, hm, hd]
        have hk' : (n.tdiv 1000000000).natAbs < 1000000000 ^ k := by
          rw [hq]; rw [Nat.pow_succ] at hk; omega
        have := at95 s y k (n.tdiv 1000000000) (l ++ [((n.natAbs % 1000000000 : Nat) : Int)]) hk' (by simp; omega) (by omega) (by omega) (by rw [Dg_append]; exact ⟨hl, by rw [Dg_cons]; exact ⟨by omega, Dg_nil⟩⟩)
        simp only [List.append_assoc, List.singleton_append] at this
        exact this
/-- WideOf. -/
theorem c95 {n : Int} (h1 : -9223372036854775807 ≤ n) (h2 : n ≤ 9223372036854775807) : CallV vt1 95 [.int n] (W n) := by
  refine CallV.by (fun ih => e95 ih _) ?_
  have hv : val (digits n.natAbs) = n.natAbs := val_digits _
  have e : (if (n.natAbs : Int) = 0 then (0 : Int) else if n < 0 then -1 else 1) = if n = 0 then 0 else if n < 0 then -1 else 1 := by
    by_cases h : n = 0
    · subst h; rfl
    · rw [if_neg h, if_neg (by omega)]
  refine EvR.cond (fun h => ?_) (fun h => ?_)
  · have := at95 (-1) 0 3 n [] (by omega) (by simp) h1 h2 Dg_nil
    simp only [List.nil_append, hv, Int.toNat_natCast] at this
    simp only [decide_eq_true_eq] at h
    rw [← W_of, ← e, if_pos h]
    exact this
  · have := at95 1 0 3 n [] (by omega) (by simp) h1 h2 Dg_nil
    simp only [List.nil_append, hv, Int.toNat_natCast] at this
    simp only [decide_eq_false_iff_not] at h
    rw [← W_of, ← e, if_neg h]
    exact this
end Go.Proofs
/- Contracts of wide numbers: digits compared, added, subtracted. -/
namespace Go.Proofs
open Go Go.Sx Go.Vx
set_option maxRecDepth 100000
theorem val_lt {l : List Int} (h : Dg l) : val l < 1000000000 ^ l.length := by
  induction l with
  | nil => simp [val]
  | cons d l ih =>
    rw [Dg_cons] at h
    have := ih h.2
    simp only [val, List.length_cons, Int.pow_succ]
    omega
theorem val_ge {l : List Int} (h : Dg l) (ht : Top l) (hn : l ≠ []) : (1000000000 : Int) ^ (l.length - 1) ≤ val l := by
  induction l with
  | nil => exact absurd rfl hn
  | cons d l ih =>
    rw [Dg_cons] at h
    cases l with
    | nil => simp only [Top] at ht; simp only [val, List.length_cons, List.length_nil]; simp; omega
    | cons e l =>
      have := ih h.2 ht (by simp)
      simp only [List.length_cons, Nat.add_sub_cancel] at this ⊢
      rw [Int.pow_succ]
      rw [val]
      omega
theorem pow_mono {i j : Nat} (h : i ≤ j) : (1000000000 : Int) ^ i ≤ 1000000000 ^ j := by
  obtain ⟨k, rfl⟩ : ∃ k, j = i + k := ⟨j - i, by omega⟩
  induction k with
  | zero => exact Int.le_refl _
  | succ k ih =>
    have := ih (by omega)
    have h0 : (0 : Int) ≤ 1000000000 ^ (i + k) := Int.pow_nonneg (by omega)
    rw [← Nat.add_assoc, Int.pow_succ]
    omega
theorem pow_pos' (i : Nat) : (0 : Int) < 1000000000 ^ i := Int.pow_pos (by omega)
theorem val_lt_of_len {a b : List Int} (ha : Dg a) (hb : Dg b) (tb : Top b) (h : a.length < b.length) : val a < val b := by
  have h1 := val_lt ha
  have h2 := val_ge hb tb (by intro e; subst e; simp at h)
  have h3 := pow_mono (i := a.length) (j := b.length - 1) (by omega)
  omega
theorem take_snoc (l : List Int) (k : Nat) (h : k < l.length) : l.take (k + 1) = l.take k ++ [l.getD k 0] := by
  rw [List.take_add_one, List.getD_eq_getElem?_getD, List.getElem?_eq_getElem h]; rfl
theorem val_take (l : List Int) (k : Nat) (h : k < l.length) : val (l.take (k + 1)) = val (l.take k) + 1000000000 ^ k * l.getD k 0 := by
  rw [take_snoc l k h, val_append]
  simp only [val, List.length_take]
  rw [Nat.min_eq_left (by omega)]
  simp
theorem Dg_take {l : List Int} (h : Dg l) (k : Nat) : Dg (l.take k) := fun d hd => h d (List.mem_of_mem_take hd)
theorem val_take_lt {l : List Int} (h : Dg l) {k : Nat} (hk : k ≤ l.length) : val (l.take k) < 1000000000 ^ k := by
  have := val_lt (Dg_take h k)
  rw [List.length_take, Nat.min_eq_left hk] at this
  exact this
theorem cmp_top {x y p a b : Int} (hx : 0 ≤ x) (hy : 0 ≤ y) (hx' : x < p) (h : a < b) : x + p * a < y + p * b := by
  have h1 : p * (b - a) ≥ p * 1 := Int.mul_le_mul_of_nonneg_left (by omega) (by omega)
  have h2 : p * (b - a) = p * b - p * a := Int.mul_sub p b a
  omega
theorem at135 {a b : List Int} (ha : Dg a) (hb : Dg b) (hl : a.length = b.length) (hn : a.length ≤ 1048576) : ∀ k : Nat, k ≤ a.length →
    AtV vt1 135 0 (tblL [(0, L a), (1, L b), (5, .int ((k : Int) - 1))]) [] (.int (val (a.take k) - val (b.take k)).sign)
  | 0, _ => AtV.by (fun ih => e135_0 ih _ _ _) (EvR.no (by simp) (EvR.ret' (by simp [val])))
  | k + 1, hk => by
    have e1 : (((k + 1 : Nat) : Int) - 1) = (k : Int) := by omega
    rw [e1]
    refine AtV.by (fun ih => e135_0 ih _ _ _) ?_
    rw [asI_ints, asI_ints, w64_id (by omega) (by omega)]
    have hA := okR_ok (l := a) (i := (k : Int)) (by omega) (by omega)
    have hB := okR_ok (l := b) (i := (k : Int)) (by omega) (by omega)
    have va := val_take a k (by omega)
    have vb := val_take b k (by omega)
    have la := val_take_lt ha (k := k) (by omega)
    have lb := val_take_lt hb (k := k) (by omega)
    have na := val_nonneg (Dg_take ha k)
    have nb := val_nonneg (Dg_take hb k)
    refine EvR.yes (by simp) (EvR.yes hA (EvR.yes hB (EvR.cond (fun h => ?_) (fun h => EvR.yes hA (EvR.yes hB (EvR.cond (fun h' => ?_) (fun h' => ?_))))))) <;>
      simp only [Int.toNat_natCast, decide_eq_true_eq, decide_eq_false_iff_not] at *
    · refine EvR.ret' ?_
      have := cmp_top na nb la h
      rw [Int.sign_eq_neg_one_of_neg (by omega)]
    · refine EvR.ret' ?_
      have := cmp_top nb na lb h'
      rw [Int.sign_eq_one_of_pos (by omega)]
    · have hd : a.getD k 0 = b.getD k 0 := by omega
      have := at135 ha hb hl hn k (by omega)
      have e : val (a.take (k + 1)) - val (b.take (k + 1)) = val (a.take k) - val (b.take k) := by rw [va, vb, hd]; omega
      rw [e]; exact this
/-- cmpDigits. -/
theorem c135 {a b : List Int} (ha : Dg a) (hb : Dg b) (ta : Top a) (tb : Top b) (na : a.length ≤ 1048576) (nb : b.length ≤ 1048576) : CallV vt1 135 [L a, L b] (.int (val a - val b).sign) := by
  refine CallV.by (fun ih => e135 ih _ _) ?_
  simp only [List.length_map]
  refine EvR.cond (fun h => EvR.cond (fun h' => EvR.ret' ?_) (fun h' => EvR.ret' ?_)) (fun h => ?_) <;> simp only [Bool.not_eq_true', decide_eq_true_eq, decide_eq_false_iff_not, Bool.not_eq_false', Int.natCast_inj] at *
  · have := val_lt_of_len ha hb tb (by omega)
    rw [Int.sign_eq_neg_one_of_neg (by omega)]
  · have := val_lt_of_len hb ha ta (by omega)
    rw [Int.sign_eq_one_of_pos (by omega)]
  · have := at135 ha hb h na a.length (by omega)
    rw [List.take_length, h, List.take_length] at this
    rw [w64_id (by omega) (by omega), h]
    exact this
theorem c156 (l : List Int) {i : Int} (h0 : 0 ≤ i) : CallV vt1 156 [L l, .int i] (.int (l.getD i.toNat 0)) := by
  refine CallV.by (fun ih => e156 ih _ _) (EvR.cond (fun h => EvR.yes (okR_ok h0 (by simpa using h)) (EvR.ret' ?_)) (fun h => EvR.ret' ?_))
  · rw [asI_ints]
  · congr 1
    rw [List.getD_eq_getElem?_getD, List.getElem?_eq_none (by simp at h; omega)]; rfl
end Go.Proofs
/- Contracts of wide numbers: digits added, subtracted; sums. -/
namespace Go.Proofs
open Go Go.Sx Go.Vx
set_option maxRecDepth 100000
theorem getD_Dg {l : List Int} (h : Dg l) (i : Nat) : 0 ≤ l.getD i 0 ∧ l.getD i 0 < 1000000000 := by
  rw [List.getD_eq_getElem?_getD]
  cases e : l[i]? with
  | none => simp
  | some d => exact h d (List.mem_of_getElem? e)
theorem val_drop (l : List Int) (i : Nat) : val (l.drop i) = l.getD i 0 + 1000000000 * val (l.drop (i + 1)) := by
  by_cases h : i < l.length
  · rw [List.drop_eq_getElem_cons h, val, List.getD_eq_getElem?_getD, List.getElem?_eq_getElem h]; rfl
  · rw [List.drop_eq_nil_of_le (by omega), List.drop_eq_nil_of_le (by omega), List.getD_eq_getElem?_getD, List.getElem?_eq_none (by omega)]; rfl
theorem Dg_drop {l : List Int} (h : Dg l) (k : Nat) : Dg (l.drop k) := fun d hd => h d (List.mem_of_mem_drop hd)
theorem at134 {a b : List Int} (ha : Dg a) (hb : Dg b) (na : a.length ≤ 500000) (nb : b.length ≤ 500000) : ∀ (n i : Nat) (m : List Int) (c : Int), max a.length b.length + 1 ≤ i + n → i ≤ max a.length b.length + 1 → m.length = i → Dg m → (c = 0 ∨ c = 1) → (max a.length b.length < i → c = 0) →
    ∃ r, AtV vt1 134 0 (tblL [(0, L a), (1, L b), (5, .own 0), (6, .int c), (7, .int (i : Int))]) [.row true 1 (ints m)] (L r) ∧ Dg r ∧ r.length ≤ max a.length b.length + 1 ∧ val r = val m + 1000000000 ^ i * (val (a.drop i) + val (b.drop i) + c)
  | n, i, m, c, h1, h2, h3, hm, hc, hc0 => by
    by_cases hgo : i < a.length ∨ i < b.length ∨ 0 < c
    · cases n with
      | zero => have := hc0 (by omega); omega
      | succ n =>
        have ga := getD_Dg ha i
        have gb := getD_Dg hb i
        have hs : w64 (w64 (a.getD i 0 + b.getD i 0) + c) = a.getD i 0 + b.getD i 0 + c := by
          rw [w64_id (n := a.getD i 0 + b.getD i 0) (by omega) (by omega), w64_id (by omega) (by omega)]
        generalize hS : a.getD i 0 + b.getD i 0 + c = s at hs
        have hs0 : 0 ≤ s := by omega
        have hr : s.tmod 1000000000 = s % 1000000000 := Int.tmod_eq_emod_of_nonneg hs0
        have hq : s.tdiv 1000000000 = s / 1000000000 := Int.tdiv_eq_ediv_of_nonneg hs0
        obtain ⟨r, q1, q2, q3, q4⟩ := at134 ha hb na nb n (i + 1) (m ++ [s % 1000000000]) (s / 1000000000) (by omega) (by omega) (by simp [h3])
          (by rw [Dg_append]; exact ⟨hm, by rw [Dg_cons]; exact ⟨by omega, Dg_nil⟩⟩) (by omega) (fun h => by
            have : a.getD i 0 = 0 := by rw [List.getD_eq_getElem?_getD, List.getElem?_eq_none (by omega)]; rfl
            have : b.getD i 0 = 0 := by rw [List.getD_eq_getElem?_getD, List.getElem?_eq_none (by omega)]; rfl
            omega)
        have e1 : ((i + 1 : Nat) : Int) = (i : Int) + 1 := by omega
        rw [e1] at q1
        refine ⟨r, ?_, q2, q3, ?_⟩
        · have c1 := c156 a (i := (i : Int)) (by omega)
          have c2 := c156 b (i := (i : Int)) (by omega)
          rw [Int.toNat_natCast] at c1 c2
          have hlen : lenOk (ints m) [DV.int (s % 1000000000)] = true := lenOk_ints (by simp; omega)
          have hw : w64 ((i : Int) + 1) = (i : Int) + 1 := w64_id (by omega) (by omega)
          have hw2 : w64 (s / 1000000000) = s / 1000000000 := w64_id (by omega) (by omega)
          refine AtV.by (fun ih => e134_0 ih _ _ _ _ _) ?_
          refine EvR.cond (fun _ => ?_) (fun g1 => EvR.cond (fun _ => ?_) (fun g2 => EvR.cond (fun _ => ?_) (fun g3 => ?_)))
          · refine EvR.call c1 (EvR.yes (isRes_int _) (EvR.call c2 (EvR.yes (isRes_int _) ?_)))
            simp only [asI_int, hs, hr, hq, hw, hw2, ints_snoc]
            exact EvR.yes hlen q1
          · refine EvR.call c1 (EvR.yes (isRes_int _) (EvR.call c2 (EvR.yes (isRes_int _) ?_)))
            simp only [asI_int, hs, hr, hq, hw, hw2, ints_snoc]
            exact EvR.yes hlen q1
          · refine EvR.call c1 (EvR.yes (isRes_int _) (EvR.call c2 (EvR.yes (isRes_int _) ?_)))
            simp only [asI_int, hs, hr, hq, hw, hw2, ints_snoc]
            exact EvR.yes hlen q1
          · simp at g1 g2 g3; omega
        · rw [q4, val_append, h3, val_drop a i, val_drop b i, Int.pow_succ]
          simp only [val]
          have hdm : s = s % 1000000000 + 1000000000 * (s / 1000000000) := by omega
          generalize s % 1000000000 = u at *
          generalize s / 1000000000 = v at *
          generalize (1000000000 : Int) ^ i = p at *
          have : a.getD i 0 + b.getD i 0 + c = u + 1000000000 * v := by omega
          grind
    · refine ⟨m, ?_, hm, by omega, ?_⟩
      · refine AtV.by (fun ih => e134_0 ih _ _ _ _ _) (EvR.no (by simp; omega) (EvR.no (by simp; omega) (EvR.no (by simp; omega) (EvR.ret' rfl))))
      · rw [List.drop_eq_nil_of_le (by omega), List.drop_eq_nil_of_le (by omega)]
        have : c = 0 := by omega
        subst this
        simp [val]
/-- addDigits. -/
theorem c134 {a b : List Int} (ha : Dg a) (hb : Dg b) (na : a.length ≤ 500000) (nb : b.length ≤ 500000) : ∃ r, CallV vt1 134 [L a, L b] (L r) ∧ Dg r ∧ r.length ≤ max a.length b.length + 1 ∧ val r = val a + val b := by
  obtain ⟨r, h1, h2, h3, h4⟩ := at134 ha hb na nb (max a.length b.length + 1) 0 [] 0 (by omega) (by omega) rfl Dg_nil (.inl rfl) (fun _ => rfl)
  refine ⟨r, CallV.by (fun ih => e134 ih _ _) h1, h2, h3, ?_⟩
  rw [h4]; simp [val]
theorem at136 {a b : List Int} (ha : Dg a) (hb : Dg b) (na : a.length ≤ 500000) (hv : val b ≤ val a) : ∀ (n i : Nat) (m : List Int) (c : Int), a.length = i + n → m.length = i → Dg m → (c = 0 ∨ c = 1) →
    val m + 1000000000 ^ i * (val (a.drop i) - val (b.drop i) - c) = val a - val b →
    AtV vt1 136 0 (tblL [(0, L a), (1, L b), (5, .own 0), (6, .int c), (7, .int (i : Int))]) [.row true 1 (ints m)] (L (digits (val a - val b).toNat))
  | 0, i, m, c, h1, h3, hm, hc, hinv => by
    refine AtV.by (fun ih => e136_0 ih _ _ _ _ _) ?_
    have hda : a.drop i = [] := List.drop_eq_nil_of_le (by omega)
    rw [hda] at hinv
    have hm1 := val_lt hm
    have hb1 := val_nonneg (Dg_drop hb i)
    have hm0 := val_nonneg hm
    rw [h3] at hm1
    have key : val (b.drop i) + c = 0 := by
      by_cases hz : val (b.drop i) + c = 0
      · exact hz
      · have hp := pow_pos' i
        have : (1000000000 : Int) ^ i * 1 ≤ 1000000000 ^ i * (val (b.drop i) + c) := Int.mul_le_mul_of_nonneg_left (by omega) (by omega)
        simp only [val] at hinv
        have e : (1000000000 : Int) ^ i * (0 - val (b.drop i) - c) = - (1000000000 ^ i * (val (b.drop i) + c)) := by grind
        rw [e] at hinv
        omega
    have e : (val ([] : List Int) - val (b.drop i) - c) = 0 := by simp only [val]; omega
    rw [e] at hinv
    have hvm : val a - val b = val m := by omega
    have := c153 hm (by omega)
    rw [hvm]
    exact EvR.no (by simp; omega) (EvR.call this (EvR.yes (isRes_L _) (EvR.ret' rfl)))
  | n + 1, i, m, c, h1, h3, hm, hc, hinv => by
    have ga := getD_Dg ha i
    have gb := getD_Dg hb i
    have hs : w64 (w64 (a.getD i 0 - b.getD i 0) - c) = a.getD i 0 - b.getD i 0 - c := by
      rw [w64_id (n := a.getD i 0 - b.getD i 0) (by omega) (by omega), w64_id (by omega) (by omega)]
    have e1 : ((i + 1 : Nat) : Int) = (i : Int) + 1 := by omega
    have hw : w64 ((i : Int) + 1) = (i : Int) + 1 := w64_id (by omega) (by omega)
    have c2 := c156 b (i := (i : Int)) (by omega)
    rw [Int.toNat_natCast] at c2
    rw [val_drop a i, val_drop b i] at hinv
    generalize hS : a.getD i 0 - b.getD i 0 - c = s at hs
    refine AtV.by (fun ih => e136_0 ih _ _ _ _ _) (EvR.yes (by simp; omega) (EvR.yes (okR_ok (by omega) (by omega)) (EvR.call c2 (EvR.yes (isRes_int _) ?_))))
    simp only [asI_int, asI_ints, Int.toNat_natCast, hs, hw, ints_snoc]
    refine EvR.cond (fun h => ?_) (fun h => ?_) <;> simp only [decide_eq_true_eq, decide_eq_false_iff_not] at h
    · have hw2 : w64 (s + 1000000000) = s + 1000000000 := w64_id (by omega) (by omega)
      rw [hw2]
      have := at136 ha hb na hv n (i + 1) (m ++ [s + 1000000000]) 1 (by omega) (by simp [h3]) (by rw [Dg_append]; exact ⟨hm, by rw [Dg_cons]; exact ⟨by omega, Dg_nil⟩⟩) (.inr rfl) (by
        rw [← hinv, val_append, h3, Int.pow_succ]
        simp only [val]
        generalize (1000000000 : Int) ^ i = p at *
        grind)
      rw [e1] at this
      exact EvR.yes (lenOk_ints (by simp; omega)) this
    · have := at136 ha hb na hv n (i + 1) (m ++ [s]) 0 (by omega) (by simp [h3]) (by rw [Dg_append]; exact ⟨hm, by rw [Dg_cons]; exact ⟨by omega, Dg_nil⟩⟩) (.inl rfl) (by
        rw [← hinv, val_append, h3, Int.pow_succ]
        simp only [val]
        generalize (1000000000 : Int) ^ i = p at *
        grind)
      rw [e1] at this
      exact EvR.yes (lenOk_ints (by simp; omega)) this
/-- subDigits. -/
theorem c136 {a b : List Int} (ha : Dg a) (hb : Dg b) (na : a.length ≤ 500000) (hv : val b ≤ val a) : CallV vt1 136 [L a, L b] (L (digits (val a - val b).toNat)) := by
  refine CallV.by (fun ih => e136 ih _ _) ?_
  exact at136 ha hb na hv a.length 0 [] 0 (by omega) rfl Dg_nil (.inl rfl) (by simp [val])
end Go.Proofs
/- Contracts of wide numbers: sums. -/
namespace Go.Proofs
open Go Go.Sx Go.Vx
set_option maxRecDepth 100000
theorem lt_dl (n : Int) : n.natAbs < 1000000000 ^ dl n := lt_of_digits _
theorem dl_le {n : Int} {k : Nat} (h : n.natAbs < 1000000000 ^ k) : dl n ≤ k := length_digits_le h
theorem dl_neg (n : Int) : dl (-n) = dl n := by unfold dl; rw [Int.natAbs_neg]
theorem npow_mono {i j : Nat} (h : i ≤ j) : (1000000000 : Nat) ^ i ≤ 1000000000 ^ j := Nat.pow_le_pow_right (by omega) h
theorem dl_add (a b : Int) : dl (a + b) ≤ max (dl a) (dl b) + 1 := by
  apply dl_le
  have h1 := lt_dl a
  have h2 := lt_dl b
  have h3 := npow_mono (Nat.le_max_left (dl a) (dl b))
  have h4 := npow_mono (Nat.le_max_right (dl a) (dl b))
  rw [Nat.pow_succ]
  omega
theorem dl_sub (a b : Int) : dl (a - b) ≤ max (dl a) (dl b) + 1 := by
  have := dl_add a (-b)
  rw [dl_neg] at this
  exact this
theorem dl_mul (a b : Int) : dl (a * b) ≤ dl a + dl b := by
  apply dl_le
  rw [Int.natAbs_mul, Nat.pow_add]
  have h1 := lt_dl a
  have h2 := lt_dl b
  exact Nat.mul_lt_mul_of_le_of_lt (Nat.le_of_lt h1) h2 (by omega)
theorem dl_small {n : Int} (h1 : -9223372036854775808 ≤ n) (h2 : n ≤ 9223372036854775807) : dl n ≤ 3 := dl_le (by omega)
theorem dl_mono {a b : Int} (h : a.natAbs ≤ b.natAbs) : dl a ≤ dl b := dl_le (Nat.lt_of_le_of_lt h (lt_dl b))
theorem sign_w64 (n : Int) : w64 (0 - n.sign) = (-n).sign := by
  rw [Int.sign_neg]
  have : n.sign = 1 ∨ n.sign = 0 ∨ n.sign = -1 := by
    rcases Int.lt_trichotomy n 0 with h | h | h
    · exact .inr (.inr (Int.sign_eq_neg_one_of_neg h))
    · subst h; exact .inr (.inl rfl)
    · exact .inl (Int.sign_eq_one_of_pos h)
  rw [w64_id (by omega) (by omega)]; omega
theorem isRes_W' (n : Int) : isRes [⟨true, [.int, .list 1]⟩] (W n) = true := rfl
theorem c130 (n : Int) : CallV vt1 130 [W n] (W (-n)) := by
  refine CallV.by (fun ih => e130 ih _ _) (EvR.ret' ?_)
  rw [sign_w64]; unfold W; rw [Int.natAbs_neg]
theorem c106 (n : Int) : CallV vt1 106 [W n] (.int n.sign) := CallV.by (fun ih => e106 ih _ _) EvR.ret
/-- A number from its sign and its size. -/
theorem W_mk {s v n : Int} (hv : v = n.natAbs) (hs : n ≠ 0 → s = n.sign) : aggW (if v = 0 then 0 else s) (digits v.toNat) = W n := by
  unfold W
  subst hv
  rw [Int.toNat_natCast]
  congr 3
  by_cases h : n = 0
  · subst h; rfl
  · rw [if_neg (by omega), hs h]
theorem val_dig (n : Int) : val (digits n.natAbs) = n.natAbs := val_digits _
theorem sgn3 (n : Int) : (n.sign = 1 ∧ 0 < n) ∨ (n.sign = 0 ∧ n = 0) ∨ (n.sign = -1 ∧ n < 0) := by
  rcases Int.lt_trichotomy n 0 with h | h | h
  · exact .inr (.inr ⟨Int.sign_eq_neg_one_of_neg h, h⟩)
  · subst h; exact .inr (.inl ⟨rfl, rfl⟩)
  · exact .inl ⟨Int.sign_eq_one_of_pos h, h⟩
/-- WideAdd. -/
theorem c97 {a b : Int} (ha : dl a ≤ 400000) (hb : dl b ≤ 400000) : CallV vt1 97 [W a, W b] (W (a + b)) := by
  refine CallV.by (fun ih => e97 ih _ _ _ _) ?_
  have da := Dg_digits a.natAbs
  have db := Dg_digits b.natAbs
  have va := val_dig a
  have vb := val_dig b
  have la : (digits a.natAbs).length ≤ 400000 := ha
  have lb : (digits b.natAbs).length ≤ 400000 := hb
  rcases sgn3 a with ⟨sa, pa⟩ | ⟨sa, pa⟩ | ⟨sa, pa⟩
  rotate_left
  · subst pa
    exact EvR.yes (by simp) (EvR.ret' (by rw [Int.zero_add]; rfl))
  all_goals
    refine EvR.no (by simp; omega) ?_
    rcases sgn3 b with ⟨sb, pb⟩ | ⟨sb, pb⟩ | ⟨sb, pb⟩
    rotate_left
    · subst pb
      exact EvR.yes (by simp) (EvR.ret' (by rw [Int.add_zero]; rfl))
    all_goals
      refine EvR.no (by simp; omega) ?_
      first
      | refine EvR.yes (by simp [sa, sb]) ?_
        obtain ⟨r, h1, h2, h3, h4⟩ := c134 da db (by omega) (by omega)
        refine EvR.call h1 (EvR.yes (isRes_L _) (EvR.call (c129 _ h2 (by omega)) (EvR.yes (isRes_W _ _) (EvR.ret' ?_))))
        exact W_mk (by rw [h4, va, vb]; omega) (fun _ => by
          rw [sa]
          first
          | rw [Int.sign_eq_one_of_pos (by omega)]
          | rw [Int.sign_eq_neg_one_of_neg (by omega)])
      | refine EvR.no (by simp [sa, sb]) ?_
        refine EvR.call (c135 da db (Top_digits _) (Top_digits _) (by omega) (by omega)) (EvR.yes (isRes_int _) ?_)
        rw [va, vb]
        simp only [asI_int]
        rcases sgn3 ((a.natAbs : Int) - b.natAbs) with ⟨sc, pc⟩ | ⟨sc, pc⟩ | ⟨sc, pc⟩
        · refine EvR.no (by simp [sc]) (EvR.yes (by simp [sc]) (EvR.call (c136 da db (by omega) (by omega)) (EvR.yes (isRes_L _) (EvR.call (c129 _ (Dg_digits _) (by
            have := length_digits_le (n := (val (digits a.natAbs) - val (digits b.natAbs)).toNat) (k := dl a) (by have := lt_dl a; omega)
            omega)) (EvR.yes (isRes_W _ _) (EvR.ret' ?_))))))
          exact W_mk (by rw [val_digits, va, vb]; omega) (fun _ => by
            rw [sa]
            first
            | rw [Int.sign_eq_one_of_pos (by omega)]
            | rw [Int.sign_eq_neg_one_of_neg (by omega)])
        · refine EvR.yes (by simp [sc]) (EvR.ret' ?_)
          have : a + b = 0 := by omega
          rw [this]
          unfold W
          simp [digits_zero]
        · refine EvR.no (by simp [sc]) (EvR.no (by simp [sc]) (EvR.call (c136 db da (by omega) (by omega)) (EvR.yes (isRes_L _) (EvR.call (c129 _ (Dg_digits _) (by
            have := length_digits_le (n := (val (digits b.natAbs) - val (digits a.natAbs)).toNat) (k := dl b) (by have := lt_dl b; omega)
            omega)) (EvR.yes (isRes_W _ _) (EvR.ret' ?_))))))
          exact W_mk (by rw [val_digits, va, vb]; omega) (fun _ => by
            rw [sb]
            first
            | rw [Int.sign_eq_one_of_pos (by omega)]
            | rw [Int.sign_eq_neg_one_of_neg (by omega)])
/-- WideSub. -/
theorem c155 {a b : Int} (ha : dl a ≤ 400000) (hb : dl b ≤ 400000) : CallV vt1 155 [W a, W b] (W (a - b)) := by
  refine CallV.by (fun ih => e155 ih _ _ _ _) ?_
  exact EvR.call (c130 b) (EvR.yes (isRes_W' _) (EvR.call (c97 (a := a) (b := -b) ha (by rw [dl_neg]; exact hb)) (EvR.yes (isRes_W' _) (EvR.ret' rfl))))
/-- WideCmp. -/
theorem c132 {a b : Int} (ha : dl a ≤ 400000) (hb : dl b ≤ 400000) : CallV vt1 132 [W a, W b] (.int (a - b).sign) := by
  refine CallV.by (fun ih => e132 ih _ _ _ _) ?_
  exact EvR.call (c155 ha hb) (EvR.yes (isRes_W' _) (EvR.ret' rfl))
/-- wideSize. -/
theorem c154 (a : Int) : CallV vt1 154 [W a] (W a.natAbs) := by
  refine CallV.by (fun ih => e154 ih _ _) (EvR.cond (fun h => ?_) (fun h => ?_))
  · have : a < 0 := by rcases sgn3 a with ⟨s, p⟩ | ⟨s, p⟩ | ⟨s, p⟩ <;> simp [s] at h <;> omega
    refine EvR.call (c130 a) (EvR.yes (isRes_W' _) (EvR.ret' ?_))
    have e : -a = (a.natAbs : Int) := by omega
    rw [e]; rfl
  · have : 0 ≤ a := by rcases sgn3 a with ⟨s, p⟩ | ⟨s, p⟩ | ⟨s, p⟩ <;> simp [s] at h <;> omega
    refine EvR.ret' ?_
    have e : a = (a.natAbs : Int) := by omega
    rw [← e]; rfl
end Go.Proofs
/- Contracts of wide numbers: products. -/
namespace Go.Proofs
open Go Go.Sx Go.Vx
set_option maxRecDepth 100000
theorem val_set (o : List Int) (p : Nat) (x : Int) (h : p < o.length) : val (o.set p x) = val o + 1000000000 ^ p * (x - o.getD p 0) := by
  induction o generalizing p with
  | nil => simp at h
  | cons d o ih =>
    cases p with
    | zero => simp only [List.set_cons_zero, val, List.getD_cons_zero]; simp; omega
    | succ p =>
      simp only [List.set_cons_succ, val, List.getD_cons_succ]
      rw [ih p (by simpa using h), Int.pow_succ]
      generalize (1000000000 : Int) ^ p = q
      grind
theorem Dg_set {o : List Int} (h : Dg o) (p : Nat) {x : Int} (hx : 0 ≤ x ∧ x < 1000000000) : Dg (o.set p x) := by
  intro d hd
  rcases List.mem_or_eq_of_mem_set hd with h' | h'
  · exact h d h'
  · subst h'; exact hx
theorem getD_set_ne (o : List Int) {p j : Nat} (x : Int) (h : p ≠ j) : (o.set p x).getD j 0 = o.getD j 0 := by
  rw [List.getD_eq_getElem?_getD, List.getD_eq_getElem?_getD, List.getElem?_set_ne h]
section
variable {a b : List Int} (ha : Dg a) (hb : Dg b) (na : a.length ≤ 400000) (nb : b.length ≤ 400000) (sa sb z : Int) (hs : -1 ≤ sa * sb ∧ sa * sb ≤ 1)
include ha hb na nb hs
theorem at98 : ∀ n i : Nat, a.length = i + n → ∀ o : List Int, Dg o → o.length = a.length + b.length + 1 → (∀ j, i + b.length ≤ j → o.getD j 0 = 0) → val o + 1000000000 ^ i * (val (a.drop i) * val b) = val a * val b →
    AtV vt1 98 0 (tblL [(2, .ptr 0 0), (3, .ptr 1 0), (4, .ptr 2 0), (5, .own 3), (6, .int (i : Int))]) [.box [.int sa, L a], .box [.int sb, L b], .box [.int z, .nils], .row false 1 (ints o)]
      (aggW (if val a * val b = 0 then 0 else sa * sb) (digits (val a * val b).toNat))
  | 0, i, hn, o, ho, hl, hz, hv => by
    refine AtV.by (fun ih => e98_0 ih _ _ _ _ _ _ _) ?_
    have hd : a.drop i = [] := List.drop_eq_nil_of_le (by omega)
    rw [hd] at hv
    have : val o = val a * val b := by simp only [val] at hv; simpa using hv
    have c := c129 (sa * sb) ho (by omega)
    rw [this] at c
    refine EvR.no (by simp; omega) ?_
    rw [w64_id (by omega) (by omega)]
    exact EvR.call c (EvR.yes (isRes_W _ _) (EvR.ret' rfl))
  | n + 1, i, hn, o, ho, hl, hz, hv => by
    refine AtV.by (fun ih => e98_0 ih _ _ _ _ _ _ _) (EvR.yes (by simp; omega) ?_)
    have ga := getD_Dg ha i
    -- the inner loop
    have inner : ∀ m k : Nat, b.length = k + m → ∀ (o : List Int) (c : Int), Dg o → o.length = a.length + b.length + 1 → (∀ j, i + b.length ≤ j → o.getD j 0 = 0) → 0 ≤ c → c < 1000000000 →
        val o + 1000000000 ^ (i + k) * (c + a.getD i 0 * val (b.drop k)) + 1000000000 ^ (i + 1) * (val (a.drop (i + 1)) * val b) = val a * val b →
        AtV vt1 98 1 (tblL [(2, .ptr 0 0), (3, .ptr 1 0), (4, .ptr 2 0), (5, .own 3), (6, .int (i : Int)), (7, .int c), (8, .int (k : Int))]) [.box [.int sa, L a], .box [.int sb, L b], .box [.int z, .nils], .row false 1 (ints o)]
          (aggW (if val a * val b = 0 then 0 else sa * sb) (digits (val a * val b).toNat)) := by
      intro m
      induction m with
      | zero =>
        intro k hk o c ho hl hz h0 h1 hv
        refine AtV.by (fun ih => e98_1 ih _ _ _ _ _ _ _ _ _) (EvR.no (by simp; omega) ?_)
        have hd : b.drop k = [] := List.drop_eq_nil_of_le (by omega)
        have hk' : k = b.length := by omega
        subst hk'
        rw [hd] at hv
        have hw : w64 ((i : Int) + ((ints b).length : Int)) = ((i + b.length : Nat) : Int) := by rw [w64_id] <;> simp <;> omega
        have hin : inR (((i + b.length : Nat) : Int)) (ints o) = true := by rw [inR_ints]; simp; omega
        have hz0 := hz (i + b.length) (by omega)
        have hw1 : w64 ((i : Int) + 1) = (((i + 1 : Nat)) : Int) := by rw [w64_id (by omega) (by omega)]; omega
        rw [hw]
        refine EvR.yes hin (EvR.yes (isRow_ints _ _ (by rw [Int.toNat_natCast]; omega)) (EvR.yes hin ?_))
        rw [asI_ints, Int.toNat_natCast, hz0, hw1, w64_id (n := 0 + c) (by omega) (by omega), ints_set, Int.zero_add]
        refine at98 n (i + 1) (by omega) _ (Dg_set ho _ ⟨h0, h1⟩) (by simpa using hl) (fun j hj => ?_) ?_
        · rw [getD_set_ne _ _ (by omega)]; exact hz j (by omega)
        · rw [val_set _ _ _ (by omega), hz0, ← hv]
          simp only [val]
          generalize (1000000000 : Int) ^ (i + b.length) = q
          grind
      | succ m ihm =>
        intro k hk o c ho hl hz h0 h1 hv
        have gb := getD_Dg hb k
        have go := getD_Dg ho (i + k)
        have hprod0 : 0 ≤ a.getD i 0 * b.getD k 0 := Int.mul_nonneg ga.1 gb.1
        have hprod1 : a.getD i 0 * b.getD k 0 ≤ 999999999 * 999999999 := Int.mul_le_mul (by omega) (by omega) gb.1 (by omega)
        have hw : w64 ((i : Int) + (k : Int)) = ((i + k : Nat) : Int) := by rw [w64_id (by omega) (by omega)]; omega
        have hw1 : w64 ((k : Int) + 1) = (((k + 1 : Nat)) : Int) := by rw [w64_id (by omega) (by omega)]; omega
        have hin : inR (((i + k : Nat) : Int)) (ints o) = true := by rw [inR_ints]; simp; omega
        refine AtV.by (fun ih => e98_1 ih _ _ _ _ _ _ _ _ _) (EvR.yes (by simp; omega) ?_)
        rw [hw]
        refine EvR.yes hin (EvR.yes (isRow_ints _ _ (by rw [Int.toNat_natCast]; omega)) (EvR.yes (okR_ok (by omega) (by omega)) (EvR.yes (okR_ok (by omega) (by omega)) (EvR.yes hin ?_))))
        rw [asI_ints, asI_ints, asI_ints, Int.toNat_natCast, Int.toNat_natCast, Int.toNat_natCast, hw1]
        generalize hP : a.getD i 0 * b.getD k 0 = P at *
        have hS : w64 (w64 (o.getD (i + k) 0 + w64 P) + c) = o.getD (i + k) 0 + P + c := by
          rw [w64_id (n := P) (by omega) (by omega), w64_id (n := o.getD (i + k) 0 + P) (by omega) (by omega), w64_id (by omega) (by omega)]
        rw [hS]
        generalize hs' : o.getD (i + k) 0 + P + c = s
        have hs0 : 0 ≤ s := by omega
        rw [Int.tmod_eq_emod_of_nonneg hs0, Int.tdiv_eq_ediv_of_nonneg hs0, w64_id (n := s / 1000000000) (by omega) (by omega), ints_set]
        refine ihm (k + 1) (by omega) _ _ (Dg_set ho _ ⟨by omega, by omega⟩) (by simpa using hl) (fun j hj => ?_) (by omega) (by omega) ?_
        · rw [getD_set_ne _ _ (by omega)]; exact hz j (by omega)
        · rw [val_set _ _ _ (by omega), ← hv, val_drop b k, ← Nat.add_assoc, Int.pow_succ (1000000000 : Int) (i + k)]
          have hdm : s % 1000000000 + 1000000000 * (s / 1000000000) = s := by omega
          generalize s % 1000000000 = u at *
          generalize s / 1000000000 = v at *
          generalize (1000000000 : Int) ^ (i + k) = q
          generalize (1000000000 : Int) ^ (i + 1) * (val (a.drop (i + 1)) * val b) = r
          have e1 : a.getD i 0 * (b.getD k 0 + 1000000000 * val (b.drop (k + 1))) = P + 1000000000 * (a.getD i 0 * val (b.drop (k + 1))) := by rw [← hP]; grind
          rw [e1]
          generalize a.getD i 0 * val (b.drop (k + 1)) = y
          have e2 : o.getD (i + k) 0 = u + 1000000000 * v - P - c := by omega
          rw [e2]
          grind
    refine inner b.length 0 (by omega) o 0 ho hl hz (by omega) (by omega) ?_
    rw [← hv, val_drop a i, List.drop_zero, Nat.add_zero, Int.pow_succ]
    generalize (1000000000 : Int) ^ i = q
    grind
end
theorem sign_mul_bd (a b : Int) : -1 ≤ a.sign * b.sign ∧ a.sign * b.sign ≤ 1 := by
  rcases sgn3 a with ⟨s, _⟩ | ⟨s, _⟩ | ⟨s, _⟩ <;> rcases sgn3 b with ⟨t, _⟩ | ⟨t, _⟩ | ⟨t, _⟩ <;> rw [s, t] <;> decide
theorem val_rep0 (n : Nat) : val (List.replicate n 0) = 0 := by
  induction n with
  | zero => rfl
  | succ n ih => rw [List.replicate_succ, val, ih]; rfl
theorem getD_rep0 (n j : Nat) : (List.replicate n (0 : Int)).getD j 0 = 0 := by
  rw [List.getD_eq_getElem?_getD, List.getElem?_replicate]
  split <;> rfl
/-- WideMul. -/
theorem c98 {a b : Int} (ha : dl a ≤ 400000) (hb : dl b ≤ 400000) : CallV vt1 98 [W a, W b] (W (a * b)) := by
  refine CallV.by (fun ih => e98 ih _ _ _ _) ?_
  have la : (digits a.natAbs).length ≤ 400000 := ha
  have lb : (digits b.natAbs).length ≤ 400000 := hb
  have hw : w64 (w64 (((ints (digits a.natAbs)).length : Int) + ((ints (digits b.natAbs)).length : Int)) + 1) = (((digits a.natAbs).length + (digits b.natAbs).length + 1 : Nat) : Int) := by
    simp only [List.length_map]
    rw [w64_id (n := ((digits a.natAbs).length : Int) + ((digits b.natAbs).length : Int)) (by omega) (by omega), w64_id (by omega) (by omega)]; omega
  rw [hw]
  refine EvR.yes (by simp; omega) ?_
  rw [Int.toNat_natCast, ints_rep]
  have := at98 (Dg_digits a.natAbs) (Dg_digits b.natAbs) la lb a.sign b.sign 0 (sign_mul_bd a b) (digits a.natAbs).length 0 (by omega) (List.replicate ((digits a.natAbs).length + (digits b.natAbs).length + 1) 0) (fun d hd => by rw [List.eq_of_mem_replicate hd]; omega) (by simp) (fun j _ => getD_rep0 _ _) (by rw [val_rep0]; simp)
  rw [val_dig, val_dig, W_mk (n := a * b) (by rw [Int.natAbs_mul]; simp) (fun _ => (Int.sign_mul a b).symm)] at this
  exact this
end Go.Proofs
/- Contracts of wide numbers: quotients rounded down. -/
namespace Go.Proofs
open Go Go.Sx Go.Vx
set_option maxRecDepth 100000
theorem ediv_of {n D q : Int} (hD : 0 < D) (h1 : D * q ≤ n) (h2 : n < D * (q + 1)) : n / D = q := by
  have e := Int.mul_ediv_add_emod n D
  have r0 := Int.emod_nonneg n (b := D) (by omega)
  have r1 := Int.emod_lt_of_pos n hD
  generalize n / D = x at *
  generalize n % D = y at *
  rcases Int.lt_trichotomy x q with h | h | h
  · have : D * (x + 1) ≤ D * q := Int.mul_le_mul_of_nonneg_left (by omega) (by omega)
    rw [Int.mul_add, Int.mul_one] at this
    omega
  · exact h
  · have : D * (q + 1) ≤ D * x := Int.mul_le_mul_of_nonneg_left (by omega) (by omega)
    omega
theorem W_pos {D : Int} (hD : 0 < D) : aggW (if val (digits D.natAbs) = 0 then 0 else 1) (digits (val (digits D.natAbs)).toNat) = W D := by
  rw [W_mk (n := D) (val_dig D) (fun _ => (Int.sign_eq_one_of_pos hD).symm)]
theorem cells133 (x : Int) : asR (cellOf (W x) 1) = ints (digits x.natAbs) := rfl
section
variable {D : Int} (hD : 0 < D) (dD : dl D ≤ 300000)
include hD dD
theorem at133_1 {V : Int} (hV : 0 ≤ V) (dV : dl V ≤ 300001) {i : Nat} {s z sb : Int} {A q : List Int} (hi : i < q.length) (hi2 : q.length ≤ 400000) {r : DV}
    (hk : ∀ d, 0 ≤ d → d ≤ 999999999 → D * d ≤ V → V < D * (d + 1) → AtV vt1 133 0 (tblL [(2, .ptr 0 0), (3, .ptr 1 0), (4, .ptr 2 0), (5, .own 3), (6, L (digits (V - D * d).toNat)), (7, .int ((i : Int) - 1))]) [.box [.int s, L A], .box [.int sb, L (digits D.natAbs)], .box [.int z, .nils], .row false 1 (ints (q.set i d))] r) :
    ∀ (n : Nat) (lo hi : Int), hi - lo ≤ n → 0 ≤ lo → lo ≤ hi → hi ≤ 999999999 → D * lo ≤ V → V < D * (hi + 1) →
    AtV vt1 133 1 (tblL [(2, .ptr 0 0), (3, .ptr 1 0), (4, .ptr 2 0), (5, .own 3), (6, L (digits V.toNat)), (7, .int (i : Int)), (8, .int lo), (9, .int hi)]) [.box [.int s, L A], .box [.int sb, L (digits D.natAbs)], .box [.int z, .nils], .row false 1 (ints q)] r := by
  have hVn : V.toNat = V.natAbs := by omega
  have cD := c129 1 (Dg_digits D.natAbs) (by have : (digits D.natAbs).length = dl D := rfl; omega)
  rw [W_pos hD] at cD
  intro n
  induction n with
  | zero =>
    intro lo hi h h0 hle h1 h2 h3
    have : lo = hi := by omega
    subst this
    refine AtV.by (fun ih => e133_1 ih _ _ _ _ _ _ _ _ _ _) (EvR.no (by simp) (EvR.yes (by rw [inR_ints]; simp; omega) (EvR.call cD (EvR.yes (isRes_W' _) (EvR.call (c95 (by omega) (by omega)) (EvR.yes (isRes_W' _) (EvR.call (c98 (a := D) (b := lo) (by omega) (by have := dl_small (n := lo) (by omega) (by omega); omega)) (EvR.yes (isRes_W' _) ?_))))))))
    have h0' : 0 ≤ D * lo := Int.mul_nonneg (by omega) h0
    have c := c136 (a := digits V.natAbs) (b := digits (D * lo).natAbs) (Dg_digits _) (Dg_digits _) (by have : (digits V.natAbs).length = dl V := rfl; omega) (by rw [val_dig, val_dig]; omega)
    rw [val_dig, val_dig, ← hVn] at c
    refine EvR.call c (EvR.yes (isRes_L _) ?_)
    have := hk lo h0 h1 h2 h3
    rw [asR_list, ints_set, Int.toNat_natCast, w64_id (by omega) (by omega)]
    have e : ((V.toNat : Int) - ((D * lo).natAbs : Int)).toNat = (V - D * lo).toNat := by omega
    rw [e]
    exact this
  | succ n ihn =>
    intro lo hi h h0 hle h1 h2 h3
    by_cases heq : lo = hi
    · exact ihn lo hi (by omega) h0 hle h1 h2 h3
    · have hm : w64 ((w64 (w64 (lo + hi) + 1)).tdiv 2) = (lo + hi + 1) / 2 := by
        rw [w64_id (n := lo + hi) (by omega) (by omega), w64_id (n := lo + hi + 1) (by omega) (by omega), Int.tdiv_eq_ediv_of_nonneg (by omega), w64_id (by omega) (by omega)]
      refine AtV.by (fun ih => e133_1 ih _ _ _ _ _ _ _ _ _ _) (EvR.yes (by simp; omega) ?_)
      rw [hm]
      generalize hmm : (lo + hi + 1) / 2 = m
      have b1 : lo < m := by omega
      have b2 : m ≤ hi := by omega
      refine EvR.call cD (EvR.yes (isRes_W' _) (EvR.call (c95 (n := m) (by omega) (by omega)) (EvR.yes (isRes_W' _) (EvR.call (c98 (a := D) (b := m) (by omega) (by have := dl_small (n := m) (by omega) (by omega); omega)) (EvR.yes (isRes_W' _) ?_)))))
      have dm : dl (D * m) ≤ 400000 := by have := dl_mul D m; have := dl_small (n := m) (by omega) (by omega); omega
      have c := c135 (a := digits (D * m).natAbs) (b := digits V.natAbs) (Dg_digits _) (Dg_digits _) (Top_digits _) (Top_digits _) (by have : (digits (D * m).natAbs).length = dl (D * m) := rfl; omega) (by have : (digits V.natAbs).length = dl V := rfl; omega)
      rw [val_dig, val_dig, ← hVn] at c
      refine EvR.call c (EvR.yes (isRes_int _) ?_)
      have hp : 0 ≤ D * m := Int.mul_nonneg (by omega) (by omega)
      rw [asI_int]
      rcases sgn3 (((D * m).natAbs : Int) - (V.toNat : Int)) with ⟨t, p⟩ | ⟨t, p⟩ | ⟨t, p⟩
      · refine EvR.no (by rw [t]; rfl) ?_
        rw [w64_id (by omega) (by omega)]
        exact ihn lo (m - 1) (by omega) h0 (by omega) (by omega) h2 (by rw [Int.sub_add_cancel]; omega)
      · exact EvR.yes (by rw [t]; rfl) (ihn m hi (by omega) (by omega) b2 h1 (by omega) h3)
      · exact EvR.yes (by rw [t]; rfl) (ihn m hi (by omega) (by omega) b2 h1 (by omega) h3)
theorem at133 {A : List Int} (hA : Dg A) (lA : A.length ≤ 300000) {s z sb : Int} (hs : s = 1 ∨ s = -1) : ∀ (k : Nat) (q : List Int) (Rm : Int), k ≤ A.length → q.length = A.length → Dg q → 0 ≤ Rm → Rm < D → val (A.drop k) = D * val (q.drop k) + Rm →
    AtV vt1 133 0 (tblL [(2, .ptr 0 0), (3, .ptr 1 0), (4, .ptr 2 0), (5, .own 3), (6, L (digits Rm.toNat)), (7, .int ((k : Int) - 1))]) [.box [.int s, L A], .box [.int sb, L (digits D.natAbs)], .box [.int z, .nils], .row false 1 (ints q)] (W ((s * val A) / D))
  | 0, q, Rm, hk, hl, hq, r0, r1, hv => by
    rw [List.drop_zero, List.drop_zero] at hv
    have hqn := val_nonneg hq
    have c := c129 s hq (by omega)
    have e : aggW (if val q = 0 then 0 else s) (digits (val q).toNat) = W (s * val q) := W_mk (n := s * val q) (by rcases hs with e | e <;> subst e <;> omega) (fun hne => by
      have : val q ≠ 0 := fun e => hne (by rw [e]; simp)
      rcases hs with e | e <;> subst e
      · rw [Int.sign_eq_one_of_pos (by omega)]
      · rw [Int.sign_eq_neg_one_of_neg (by omega)])
    rw [e] at c
    refine AtV.by (fun ih => e133_0 ih _ _ _ _ _ _ _ _) (EvR.no (by simp) (EvR.call c (EvR.yes (isRes_W' _) ?_)))
    have hlen0 : Rm = 0 → ((ints (digits Rm.toNat)).length : Int) = 0 := by intro e; subst e; simp [digits_zero]
    have hlen1 : Rm ≠ 0 → 0 < ((ints (digits Rm.toNat)).length : Int) := by intro e; rw [digits_pos (by omega)]; simp
    rcases hs with e | e
    · subst e
      refine EvR.no (by simp) (EvR.ret' ?_)
      rw [Int.one_mul, Int.one_mul, ediv_of hD (q := val q) (by omega) (by rw [Int.mul_add]; omega)]
      rfl
    · subst e
      refine EvR.yes (by simp) ?_
      by_cases hR : Rm = 0
      · refine EvR.no (by rw [hlen0 hR]; rfl) (EvR.ret' ?_)
        have : (-1 * val A) / D = -1 * val q := ediv_of hD (by rw [hv]; grind) (by rw [hv]; grind)
        rw [this]; rfl
      · refine EvR.yes (by simpa using hlen1 hR) (EvR.call (c95 (n := 1) (by omega) (by omega)) (EvR.yes (isRes_W' _) ?_))
        have hle : (-1 * val q).natAbs ≤ (val A).natAbs := by
          have h1 : 1 * val q ≤ D * val q := Int.mul_le_mul_of_nonneg_right (by omega) hqn
          omega
        have hd1 := dl_mono hle
        have hdl : dl (val A) ≤ 300000 := Nat.le_trans (dl_le (k := A.length) (by
          have h : (val A) < ((1000000000 ^ A.length : Nat) : Int) := by rw [Int.natCast_pow]; exact val_lt hA
          have h' := val_nonneg hA
          omega)) lA
        refine EvR.call (c155 (a := -1 * val q) (b := 1) (by omega) (by have := dl_small (n := 1) (by omega) (by omega); omega)) (EvR.yes (isRes_W' _) (EvR.ret' ?_))
        have : (-1 * val A) / D = -1 * val q - 1 := ediv_of hD (by rw [hv]; grind) (by rw [hv]; grind)
        rw [this]; rfl
  | k + 1, q, Rm, hk, hl, hq, r0, r1, hv => by
    have ga := getD_Dg hA k
    have e1 : (((k + 1 : Nat) : Int) - 1) = (k : Int) := by omega
    rw [e1]
    have hVe : val (A.getD k 0 :: digits Rm.toNat) = A.getD k 0 + 1000000000 * Rm := by
      rw [val, val_digits]; omega
    have hDg : Dg (A.getD k 0 :: digits Rm.toNat) := by rw [Dg_cons]; exact ⟨ga, Dg_digits _⟩
    have hRl : (digits Rm.toNat).length ≤ 300000 := by
      have h2 := lt_dl D
      exact Nat.le_trans (length_digits_le (n := Rm.toNat) (k := dl D) (by omega)) dD
    have c := c153 hDg (by simp; omega)
    rw [hVe] at c
    refine AtV.by (fun ih => e133_0 ih _ _ _ _ _ _ _ _) (EvR.yes (by simp) (EvR.yes (okR_ok (by omega) (by omega)) ?_))
    rw [asI_ints, Int.toNat_natCast]
    refine EvR.yes (lenOk_ints (by simp; omega)) (EvR.call c (EvR.yes (isRes_L _) ?_))
    have hV1 : A.getD k 0 + 1000000000 * Rm < D * 1000000000 := by omega
    have hdV : dl (A.getD k 0 + 1000000000 * Rm) ≤ 300001 := by
      have key : ∀ K : Nat, dl D ≤ K → dl (A.getD k 0 + 1000000000 * Rm) ≤ K + 1 := fun K hK => dl_le (k := K + 1) (by
        have h2 := lt_dl D
        have h3 := npow_mono hK
        rw [Nat.pow_succ]
        generalize (1000000000 : Nat) ^ K = p at *
        omega)
      exact key 300000 dD
    refine at133_1 hD dD (V := A.getD k 0 + 1000000000 * Rm) (by omega) hdV (by omega) (by omega) (fun d d0 d1 d2 d3 => ?_) 999999999 0 999999999 (by omega) (by omega) (by omega) (by omega) (by omega) (by omega)
    · have hdr := val_drop A k
      refine at133 hA lA hs k (q.set k d) _ (by omega) (by simpa using hl) (Dg_set hq k ⟨d0, by omega⟩) (by omega) (by rw [Int.mul_add] at d3; omega) ?_
      rw [hdr, hv, val_drop (q.set k d) k, List.getD_eq_getElem?_getD (l := q.set k d), List.getElem?_set_self (by omega), List.drop_set_of_lt (by omega)]
      simp only [Option.getD_some]
      generalize val (q.drop (k + 1)) = y
      grind
end
end Go.Proofs
/- Contracts of wide numbers: quotients, the greatest common divisor. -/
namespace Go.Proofs
open Go Go.Sx Go.Vx
set_option maxRecDepth 100000
theorem W_zero : W 0 = .agg [.int 0, .list false false 1 []] := by unfold W; simp [digits_zero]
/-- WideFloor. -/
theorem c133 {a D : Int} (hD : 0 < D) (ha : dl a ≤ 300000) (dD : dl D ≤ 300000) : CallV vt1 133 [W a, W D] (W (a / D)) := by
  refine CallV.by (fun ih => e133 ih _ _ _ _) ?_
  have hl : (digits a.natAbs).length = dl a := rfl
  by_cases h0 : a = 0
  · subst h0
    refine EvR.yes (by simp) (EvR.ret' ?_)
    rw [Int.zero_ediv, W_zero]
  · refine EvR.no (by rcases sgn3 a with ⟨s, p⟩ | ⟨s, p⟩ | ⟨s, p⟩ <;> rw [s] <;> first | rfl | omega) (EvR.yes (by simp; omega) ?_)
    rw [ints_rep]
    simp only [List.length_map, Int.toNat_natCast]
    rw [w64_id (by omega) (by omega)]
    have hs : a.sign = 1 ∨ a.sign = -1 := by rcases sgn3 a with ⟨s, p⟩ | ⟨s, p⟩ | ⟨s, p⟩ <;> omega
    have := at133 hD dD (Dg_digits a.natAbs) (by omega) (s := a.sign) (z := 0) (sb := D.sign) hs (digits a.natAbs).length (List.replicate (digits a.natAbs).length 0) 0 (Nat.le_refl _) (by simp) (fun d hd => by rw [List.eq_of_mem_replicate hd]; omega) (by omega) hD (by rw [List.drop_length, List.drop_eq_nil_of_le (by simp)]; simp [val])
    rw [val_dig, Int.sign_mul_natAbs] at this
    rw [Int.toNat_zero, digits_zero] at this
    exact this
theorem at131 {z : Int} : ∀ (n x y : Nat), y ≤ n → dl x ≤ 300000 → dl y ≤ 300000 →
    AtV vt1 131 0 (tblL [(2, .ptr 0 0), (3, .ptr 1 0), (4, .ptr 2 0)]) [.box [.int (x : Int).sign, L (digits (x : Int).natAbs)], .box [.int (y : Int).sign, L (digits (y : Int).natAbs)], .box [.int z, .nils]] (W (Nat.gcd x y)) := by
  intro n
  induction n with
  | zero =>
    intro x y hn dx dy
    have : y = 0 := by omega
    subst this
    refine AtV.by (fun ih => e131_0 ih _ _ _ _ _) (EvR.call (c106 ((0 : Nat) : Int)) (EvR.yes (isRes_int _) (EvR.no (by simp) (EvR.ret' ?_))))
    rw [Nat.gcd_zero_right]; rfl
  | succ n ih =>
    intro x y hn dx dy
    refine AtV.by (fun ih => e131_0 ih _ _ _ _ _) (EvR.call (c106 (y : Int)) (EvR.yes (isRes_int _) ?_))
    by_cases h0 : y = 0
    · subst h0
      refine EvR.no (by simp) (EvR.ret' ?_)
      rw [Nat.gcd_zero_right]; rfl
    · have hy : (0 : Int) < (y : Int) := by omega
      have hm : (x : Int) - (x : Int) / (y : Int) * (y : Int) = ((x % y : Nat) : Int) := by
        rw [Int.mul_comm, Int.natCast_emod]
        have := Int.mul_ediv_add_emod (x : Int) (y : Int)
        omega
      have hq : (((x : Int) / (y : Int)).natAbs) ≤ (x : Int).natAbs := by
        rw [← Int.natCast_ediv, Int.natAbs_natCast, Int.natAbs_natCast]
        exact Nat.div_le_self x y
      have hqy : ((x : Int) / (y : Int) * (y : Int)).natAbs ≤ (x : Int).natAbs := by
        rw [← Int.natCast_ediv, ← Int.natCast_mul, Int.natAbs_natCast, Int.natAbs_natCast]
        exact Nat.div_mul_le_self x y
      have d1 := dl_mono hq
      have d2 := dl_mono hqy
      refine EvR.yes (by rw [asI_int, Int.sign_eq_one_of_pos hy]; rfl) (EvR.call (c133 hy dx dy) (EvR.yes (isRes_W' _) (EvR.call (c98 (a := (x : Int) / (y : Int)) (b := (y : Int)) (by omega) (by omega)) (EvR.yes (isRes_W' _) (EvR.call (c155 (a := (x : Int)) (b := (x : Int) / (y : Int) * (y : Int)) (by omega) (by omega)) (EvR.yes (isRes_W' _) ?_))))))
      rw [hm]
      have hlt : x % y < y := Nat.mod_lt _ (by omega)
      have := ih y (x % y) (by omega) dy (Nat.le_trans (dl_mono (b := (y : Int)) (by omega)) dy)
      have e : Nat.gcd y (x % y) = Nat.gcd x y := by rw [Nat.gcd_comm y, ← Nat.gcd_rec y x, Nat.gcd_comm]
      rw [e] at this
      exact this
/-- wideGcd. -/
theorem c131 {a b : Int} (ha : dl a ≤ 300000) (hb : dl b ≤ 300000) : CallV vt1 131 [W a, W b] (W (Int.gcd a b)) := by
  refine CallV.by (fun ih => e131 ih _ _ _ _) (EvR.call (c154 a) (EvR.yes (isRes_W' _) (EvR.call (c154 b) (EvR.yes (isRes_W' _) ?_))))
  exact at131 (z := 0) b.natAbs a.natAbs b.natAbs (Nat.le_refl _) (Nat.le_trans (dl_mono (b := a) (by omega)) ha) (Nat.le_trans (dl_mono (b := b) (by omega)) hb)
end Go.Proofs
/- Contracts of ratios. -/
namespace Go.Proofs
open Go Go.Sx Go.Vx
set_option maxRecDepth 100000
def P2 (x y : Int) : DV := .agg [.int x.sign, L (digits x.natAbs), .int y.sign, L (digits y.natAbs)]
/-- A ratio. -/
def RW (q : Rat) : DV := P2 q.num q.den
theorem isRes_P2 (x y : Int) : isRes [⟨true, [.int, .list 1, .int, .list 1]⟩] (P2 x y) = true := rfl
theorem isRes_RW (q : Rat) : isRes [⟨true, [.int, .list 1, .int, .list 1]⟩] (RW q) = true := rfl
/-- The quotient in lowest terms. -/
theorem RW_div {x y n d : Int} (hy : 0 < y) (h : (x = n ∧ y = d) ∨ (x = -n ∧ y = -d)) : P2 (x / (Int.gcd x y : Int)) (y / (Int.gcd x y : Int)) = RW (Rat.divInt n d) := by
  unfold RW
  rw [Rat.num_divInt, Rat.den_divInt]
  rcases h with ⟨rfl, rfl⟩ | ⟨hx, hy'⟩
  · rw [if_neg (by omega), Int.sign_eq_one_of_pos hy, Int.one_mul, Int.gcd_comm x y, Int.natCast_ediv]
    have : (y.natAbs : Int) = y := by omega
    rw [this]
  · subst hx
    have hd : d < 0 := by omega
    have e : Int.gcd (-n) y = Int.gcd d n := by rw [hy', Int.gcd_neg, Int.neg_gcd, Int.gcd_comm]
    rw [if_neg (by omega), Int.sign_eq_neg_one_of_neg hd, e, Int.natCast_ediv]
    have h1 : (d.natAbs : Int) = y := by omega
    have h2 : -1 * n = -n := by omega
    rw [h1, h2]
/-- RatioMake. -/
theorem c96 {n d : Int} (hd : d ≠ 0) (dn : dl n ≤ 300000) (dd : dl d ≤ 300000) : CallV vt1 96 [W n, W d] (RW (Rat.divInt n d)) := by
  refine CallV.by (fun ih => e96 ih _ _ _ _) (EvR.call (c106 d) (EvR.yes (isRes_int _) ?_))
  have c1 := c95 (n := 1) (by omega) (by omega)
  have d1 : dl 1 ≤ 3 := dl_small (by omega) (by omega)
  rcases sgn3 d with ⟨s, p⟩ | ⟨s, p⟩ | ⟨s, p⟩
  · refine EvR.no (by rw [s]; rfl) ?_
    have hg : 0 < (Int.gcd n d : Int) := by have := Int.gcd_pos_of_ne_zero_right n hd; omega
    have hgl : Int.gcd n d ≤ d.natAbs := Nat.le_of_dvd (by omega) (Int.gcd_dvd_natAbs_right n d)
    have dg : dl (Int.gcd n d : Int) ≤ 300000 := Nat.le_trans (dl_mono (b := d) (by omega)) dd
    refine EvR.call (c131 dn dd) (EvR.yes (isRes_W' _) (EvR.call c1 (EvR.yes (isRes_W' _) (EvR.call (c132 (a := (Int.gcd n d : Int)) (b := 1) (by omega) (by omega)) (EvR.yes (isRes_int _) (EvR.cond (fun h => ?_) (fun h => ?_)))))))
    · refine EvR.ret' ?_
      have h1 : (Int.gcd n d : Int) = 1 := by
        rcases sgn3 ((Int.gcd n d : Int) - 1) with ⟨t, q⟩ | ⟨t, q⟩ | ⟨t, q⟩ <;> first | omega | (rw [asI_int, t] at h; exact absurd h (by decide))
      rw [← RW_div p (.inl ⟨rfl, rfl⟩), h1, Int.ediv_one, Int.ediv_one]; rfl
    · refine EvR.call (c133 hg dn dg) (EvR.yes (isRes_W' _) (EvR.call (c133 hg dd dg) (EvR.yes (isRes_W' _) (EvR.ret' ?_))))
      rw [← RW_div p (.inl ⟨rfl, rfl⟩)]; rfl
  · exact absurd p hd
  · refine EvR.yes (by rw [s]; rfl) (EvR.call (c130 n) (EvR.yes (isRes_W' _) (EvR.call (c130 d) (EvR.yes (isRes_W' _) ?_))))
    have p' : 0 < -d := by omega
    have hg : 0 < (Int.gcd (-n) (-d) : Int) := by have := Int.gcd_pos_of_ne_zero_right (-n) (b := -d) (by omega); omega
    have hgl : Int.gcd (-n) (-d) ≤ (-d).natAbs := Nat.le_of_dvd (by omega) (Int.gcd_dvd_natAbs_right (-n) (-d))
    have dn' : dl (-n) ≤ 300000 := by rw [dl_neg]; exact dn
    have dd' : dl (-d) ≤ 300000 := by rw [dl_neg]; exact dd
    have dg : dl (Int.gcd (-n) (-d) : Int) ≤ 300000 := Nat.le_trans (dl_mono (b := -d) (by rw [Int.natAbs_natCast]; exact hgl)) dd'
    refine EvR.call (c131 dn' dd') (EvR.yes (isRes_W' _) (EvR.call c1 (EvR.yes (isRes_W' _) (EvR.call (c132 (a := (Int.gcd (-n) (-d) : Int)) (b := 1) (by omega) (by omega)) (EvR.yes (isRes_int _) (EvR.cond (fun h => ?_) (fun h => ?_)))))))
    · refine EvR.ret' ?_
      have h1 : (Int.gcd (-n) (-d) : Int) = 1 := by
        rcases sgn3 ((Int.gcd (-n) (-d) : Int) - 1) with ⟨t, q⟩ | ⟨t, q⟩ | ⟨t, q⟩ <;> first | omega | (rw [asI_int, t] at h; exact absurd h (by decide))
      rw [← RW_div p' (.inr ⟨rfl, rfl⟩), h1, Int.ediv_one, Int.ediv_one]; rfl
    · refine EvR.call (c133 hg dn' dg) (EvR.yes (isRes_W' _) (EvR.call (c133 hg dd' dg) (EvR.yes (isRes_W' _) (EvR.ret' ?_))))
      rw [← RW_div p' (.inr ⟨rfl, rfl⟩)]; rfl
theorem P2_num (q : Rat) : DV.agg [.int (asI (cellOf (RW q) 0)), .list false false 1 (asR (cellOf (RW q) 1)), .int (asI (cellOf (RW q) 2)), .list false false 1 (asR (cellOf (RW q) 3))] = RW q := rfl
/-- RatioOf. -/
theorem c54 {n d : Int} (hd : d ≠ 0) (n1 : -9223372036854775807 ≤ n) (n2 : n ≤ 9223372036854775807) (d1 : -9223372036854775807 ≤ d) (d2 : d ≤ 9223372036854775807) : CallV vt1 54 [.int n, .int d] (RW (Rat.divInt n d)) := by
  have := dl_small (n := n) (by omega) (by omega)
  have := dl_small (n := d) (by omega) (by omega)
  exact CallV.by (fun ih => e54 ih _ _) (EvR.call (c95 n1 n2) (EvR.yes (isRes_W' _) (EvR.call (c95 d1 d2) (EvR.yes (isRes_W' _) (EvR.call (c96 hd (by omega) (by omega)) (EvR.yes (isRes_RW _) (EvR.ret' (P2_num _))))))))
/-- The greater length of a ratio's parts. -/
def rl (q : Rat) : Nat := max (dl q.num) (dl q.den)
theorem den_ne (q : Rat) : (q.den : Int) ≠ 0 := by have := q.den_nz; omega
/-- RatioAdd. -/
theorem c53 {a b : Rat} (ha : rl a ≤ 100000) (hb : rl b ≤ 100000) : CallV vt1 53 [RW a, RW b] (RW (a + b)) := by
  unfold rl at ha hb
  have hs : a + b = Rat.divInt (a.num * b.den + b.num * a.den) (a.den * b.den) := by
    rw [← Rat.divInt_add_divInt _ _ (den_ne a) (den_ne b), Rat.num_divInt_den, Rat.num_divInt_den]
  have m1 := dl_mul a.num b.den
  have m2 := dl_mul b.num a.den
  have m3 := dl_mul a.den b.den
  have m4 := dl_add (a.num * b.den) (b.num * a.den)
  rw [hs]
  exact CallV.by (fun ih => e53 ih _ _ _ _ _ _ _ _) (EvR.call (c98 (a := a.num) (b := b.den) (by omega) (by omega)) (EvR.yes (isRes_W' _) (EvR.call (c98 (a := b.num) (b := a.den) (by omega) (by omega)) (EvR.yes (isRes_W' _) (EvR.call (c97 (a := a.num * b.den) (b := b.num * a.den) (by omega) (by omega)) (EvR.yes (isRes_W' _) (EvR.call (c98 (a := a.den) (b := b.den) (by omega) (by omega)) (EvR.yes (isRes_W' _) (EvR.call (c96 (n := a.num * b.den + b.num * a.den) (d := a.den * b.den) (Int.mul_ne_zero (den_ne a) (den_ne b)) (by omega) (by omega)) (EvR.yes (isRes_RW _) (EvR.ret' (P2_num _))))))))))))
end Go.Proofs
/- Contracts of ratios: the rest. -/
namespace Go.Proofs
open Go Go.Sx Go.Vx
set_option maxRecDepth 100000
theorem RW_int (n : Int) : RW (n : Rat) = P2 n 1 := rfl
/-- RatioInt. -/
theorem c52 {n : Int} (n1 : -9223372036854775807 ≤ n) (n2 : n ≤ 9223372036854775807) : CallV vt1 52 [.int n] (RW (n : Rat)) :=
  CallV.by (fun ih => e52 ih _) (EvR.call (c95 n1 n2) (EvR.yes (isRes_W' _) (EvR.call (c95 (n := 1) (by omega) (by omega)) (EvR.yes (isRes_W' _) (EvR.ret' rfl)))))
/-- RatioMul. -/
theorem c67 {a b : Rat} (ha : rl a ≤ 100000) (hb : rl b ≤ 100000) : CallV vt1 67 [RW a, RW b] (RW (a * b)) := by
  unfold rl at ha hb
  have hs : a * b = Rat.divInt (a.num * b.num) (a.den * b.den) := by
    rw [← Rat.divInt_mul_divInt, Rat.num_divInt_den, Rat.num_divInt_den]
  have m1 := dl_mul a.num b.num
  have m3 := dl_mul a.den b.den
  rw [hs]
  exact CallV.by (fun ih => e67 ih _ _ _ _ _ _ _ _) (EvR.call (c98 (a := a.num) (b := b.num) (by omega) (by omega)) (EvR.yes (isRes_W' _) (EvR.call (c98 (a := a.den) (b := b.den) (by omega) (by omega)) (EvR.yes (isRes_W' _) (EvR.call (c96 (n := a.num * b.num) (d := a.den * b.den) (Int.mul_ne_zero (den_ne a) (den_ne b)) (by omega) (by omega)) (EvR.yes (isRes_RW _) (EvR.ret' (P2_num _))))))))
/-- RatioNeg. -/
theorem c105 (a : Rat) : CallV vt1 105 [RW a] (RW (-a)) := by
  refine CallV.by (fun ih => e105 ih _ _ _ _) (EvR.call (c130 a.num) (EvR.yes (isRes_W' _) (EvR.ret' ?_)))
  rfl
theorem rl_neg (a : Rat) : rl (-a) = rl a := by
  show max (dl (-a.num)) (dl a.den) = max (dl a.num) (dl a.den)
  rw [dl_neg]
/-- RatioSub. -/
theorem c65 {a b : Rat} (ha : rl a ≤ 100000) (hb : rl b ≤ 100000) : CallV vt1 65 [RW a, RW b] (RW (a - b)) := by
  rw [Rat.sub_eq_add_neg]
  exact CallV.by (fun ih => e65 ih _ _ _ _ _ _ _ _) (EvR.call (c105 b) (EvR.yes (isRes_RW _) (EvR.call (c53 (a := a) (b := -b) ha (by rw [rl_neg]; exact hb)) (EvR.yes (isRes_RW _) (EvR.ret' (P2_num _))))))
/-- RatioDiv. -/
theorem c68 {a b : Rat} (h0 : b ≠ 0) (ha : rl a ≤ 100000) (hb : rl b ≤ 100000) : CallV vt1 68 [RW a, RW b] (RW (a / b)) := by
  unfold rl at ha hb
  have hn : b.num ≠ 0 := fun e => h0 (Rat.num_eq_zero.1 e)
  have hs : a / b = Rat.divInt (a.num * b.den) (a.den * b.num) := by
    have h1 : a = (a.num : Rat) / (a.den : Int) := by rw [← Rat.divInt_eq_div, Rat.num_divInt_den]
    have h2 : b = (b.num : Rat) / (b.den : Int) := by rw [← Rat.divInt_eq_div, Rat.num_divInt_den]
    rw [Rat.divInt_eq_div, Rat.intCast_mul, Rat.intCast_mul]
    have q1 : ((a.den : Int) : Rat) ≠ 0 := by intro e; exact den_ne a (Rat.intCast_eq_zero_iff.1 e)
    have q2 : ((b.den : Int) : Rat) ≠ 0 := by intro e; exact den_ne b (Rat.intCast_eq_zero_iff.1 e)
    have q3 : ((b.num : Int) : Rat) ≠ 0 := by intro e; exact hn (Rat.intCast_eq_zero_iff.1 e)
    generalize ((a.den : Int) : Rat) = x1 at *
    generalize ((b.den : Int) : Rat) = x2 at *
    generalize ((a.num : Int) : Rat) = y1 at *
    generalize ((b.num : Int) : Rat) = y2 at *
    rw [h1, h2]
    grind
  have m1 := dl_mul a.num b.den
  have m3 := dl_mul a.den b.num
  rw [hs]
  exact CallV.by (fun ih => e68 ih _ _ _ _ _ _ _ _) (EvR.call (c98 (a := a.num) (b := b.den) (by omega) (by omega)) (EvR.yes (isRes_W' _) (EvR.call (c98 (a := a.den) (b := b.num) (by omega) (by omega)) (EvR.yes (isRes_W' _) (EvR.call (c96 (n := a.num * b.den) (d := a.den * b.num) (Int.mul_ne_zero (den_ne a) hn) (by omega) (by omega)) (EvR.yes (isRes_RW _) (EvR.ret' (P2_num _))))))))
/-- RatioSign. -/
theorem c69 (a : Rat) : CallV vt1 69 [RW a] (.int a.num.sign) := CallV.by (fun ih => e69 ih _ _ _ _) (EvR.call (c106 a.num) (EvR.yes (isRes_int _) EvR.ret))
/-- RatioFloor. -/
theorem c103 {a : Rat} (ha : rl a ≤ 300000) : CallV vt1 103 [RW a] (W (a.num / a.den)) := by
  unfold rl at ha
  have hd : (0 : Int) < a.den := by have := a.den_nz; omega
  exact CallV.by (fun ih => e103 ih _ _ _ _) (EvR.call (c133 (a := a.num) hd (by omega) (by omega)) (EvR.yes (isRes_W' _) (EvR.ret' rfl)))
/-- RatioFrom. -/
theorem c28 {n d : Int} (hd : d ≠ 0) (n1 : -9223372036854775807 ≤ n) (n2 : n ≤ 9223372036854775807) (d1 : -9223372036854775807 ≤ d) (d2 : d ≤ 9223372036854775807) : CallV vt1 28 [.agg [.int n, .int d]] (RW (Rat.divInt n d)) :=
  CallV.by (fun ih => e28 ih _ _) (EvR.call (c54 hd n1 n2 d1 d2) (EvR.yes (isRes_RW _) (EvR.ret' (P2_num _))))
/-- Within. -/
theorem c50 (n lo hi : Int) : CallV vt1 50 [.int n, .int lo, .int hi] (.bool (decide (lo ≤ n ∧ n ≤ hi))) := by
  refine CallV.by (fun ih => e50 ih _ _ _) ?_
  by_cases h1 : lo ≤ n
  · exact EvR.yes (by simp [h1]) (EvR.ret' (by simp [h1]))
  · exact EvR.no (by simp [h1]) (EvR.ret' (by simp [h1]))
end Go.Proofs
/- Contracts of ModalFrames' small functions. -/
namespace Go.Proofs
open Go Go.Sx Go.Vx
set_option maxRecDepth 100000
theorem isRes_agLL (l m : List Int) : isRes [⟨true, [.list 1, .list 1]⟩] (.agg [L l, L m]) = true := rfl
theorem isRes_ii (a b : Int) : isRes [⟨false, [.int]⟩, ⟨false, [.int]⟩] (.tup [.int a, .int b]) = true := rfl
theorem c7 (a b : List Int) : CallV vt1 7 [.agg [LT a, LT b]] (.bool (decide (a.length ≤ 6 ∧ b.length ≤ 6))) := by
  refine CallV.by (fun ih => e7 ih _ _) ?_
  simp only [List.length_map]
  by_cases h : a.length ≤ 6
  · exact EvR.yes (by simp; omega) (EvR.ret' (by congr 1; apply decide_eq_decide.2; omega))
  · exact EvR.no (by simp; omega) (EvR.ret' (by congr 1; simp; omega))
theorem c17 {a : List Int} (h : a.length ≤ 1000000) : CallV vt1 17 [LT a] (L a) :=
  CallV.by (fun ih => e17 ih _) (EvR.yes (lenOk_ints (by simp; omega)) (EvR.ret' (by rw [List.nil_append])))
theorem c9 {a b : List Int} (h1 : a.length ≤ 1000000) (h2 : b.length ≤ 1000000) : CallV vt1 9 [.agg [LT a, LT b]] (.agg [L a, L b]) :=
  CallV.by (fun ih => e9 ih _ _) (EvR.call (c17 h1) (EvR.yes (isRes_L _) (EvR.call (c17 h2) (EvR.yes (isRes_L _) (EvR.ret' rfl)))))
theorem c45 (b : Bool) (e : Int) : CallV vt1 45 [.bool b, .int e] (.int (if b then 0 else e)) := by
  refine CallV.by (fun ih => e45 ih _ _) (EvR.cond (fun h => EvR.ret' (by simp [h])) (fun h => EvR.ret' (by simp [h])))
theorem c46 (n lo hi : Int) : CallV vt1 46 [.int n, .int lo, .int hi] (.bool (decide (lo ≤ n ∧ n ≤ hi))) := by
  refine CallV.by (fun ih => e46 ih _ _ _) ?_
  by_cases h1 : lo ≤ n
  · exact EvR.yes (by simp [h1]) (EvR.ret' (by simp [h1]))
  · exact EvR.no (by simp [h1]) (EvR.ret' (by simp [h1]))
/-- The first one that is not 0. -/
def firstNZ : List Int → Int
  | [] => 0
  | x :: l => if x = 0 then firstNZ l else x
theorem at44 {l : List Int} (hl : l.length ≤ 1000) : ∀ (n i : Nat), l.length = i + n → AtV vt1 44 0 (tblL [(5, LT l), (6, .int (l.length : Int)), (7, .int (i : Int))]) [] (.int (firstNZ (l.drop i)))
  | 0, i, h => AtV.by (fun ih => e44_0 ih _ _ _) (EvR.no (by simp; omega) (EvR.ret' (by rw [List.drop_eq_nil_of_le (by omega)]; rfl)))
  | n + 1, i, h => by
    have hd : l.drop i = l.getD i 0 :: l.drop (i + 1) := by
      rw [List.drop_eq_getElem_cons (by omega), List.getD_eq_getElem?_getD, List.getElem?_eq_getElem (by omega)]; rfl
    refine AtV.by (fun ih => e44_0 ih _ _ _) (EvR.yes (by simp; omega) (EvR.yes (okR_ok (by omega) (by omega)) ?_))
    rw [asI_ints, Int.toNat_natCast, hd, firstNZ]
    by_cases h0 : l.getD i 0 = 0
    · rw [if_pos h0, w64_id (by omega) (by omega)]
      exact EvR.no (by rw [h0]; rfl) (at44 hl n (i + 1) (by omega))
    · rw [if_neg h0]
      exact EvR.yes (by simp only [h0, decide_false, Bool.not_false]) (EvR.ret' rfl)
theorem c44 {l : List Int} (hl : l.length ≤ 1000) : CallV vt1 44 [LT l] (.int (firstNZ l)) := by
  refine CallV.by (fun ih => e44 ih _) ?_
  have := at44 hl l.length 0 (by omega)
  simp only [List.length_map]
  exact this
def badAt (a b : List Int) : Nat → Nat → Int × Int
  | 0, _ => (0, 0)
  | n + 1, i => if (1 ≤ a.getD i 0 ∧ a.getD i 0 ≤ 10) ∧ (1 ≤ b.getD i 0 ∧ b.getD i 0 ≤ 20) then badAt a b n (i + 1) else ((i : Int), 2)
def pairV (p : Int × Int) : DV := .tup [.int p.1, .int p.2]
/-- The error of a frame, with an index. -/
def chk (a b : List Int) : Int × Int := if a.length = 0 ∨ b.length ≠ a.length then (0, 10) else if 4 < a.length then (0, 8) else badAt a b a.length 0
theorem at8 {a b : List Int} (hl : b.length = a.length) (hn : a.length ≤ 1000) : ∀ (n i : Nat), a.length = i + n → AtV vt1 8 0 (tblL [(1, .ptr 0 0), (32, LT a), (33, .int (a.length : Int)), (34, .int (i : Int))]) [.box [LT a, LT b]] (pairV (badAt a b n i))
  | 0, i, h => AtV.by (fun ih => e8_0 ih _ _ _ _ _) (EvR.no (by simp; omega) (EvR.ret' rfl))
  | n + 1, i, h => by
    refine AtV.by (fun ih => e8_0 ih _ _ _ _ _) (EvR.yes (by simp; omega) (EvR.yes (okR_ok (by omega) (by omega)) ?_))
    rw [asI_ints, asI_ints, Int.toNat_natCast, w64_id (by omega) (by omega)]
    refine EvR.call (c46 _ _ _) (EvR.yes (isRes_bool _) ?_)
    simp only [badAt, asB_bool]
    by_cases h1 : 1 ≤ a.getD i 0 ∧ a.getD i 0 ≤ 10
    · refine EvR.no (by rw [decide_eq_true h1]; rfl) (EvR.yes (okR_ok (by omega) (by omega)) (EvR.call (c46 _ _ _) (EvR.yes (isRes_bool _) ?_)))
      simp only [asB_bool]
      by_cases h2 : 1 ≤ b.getD i 0 ∧ b.getD i 0 ≤ 20
      · rw [if_pos ⟨h1, h2⟩]
        exact EvR.no (by rw [decide_eq_true h2]; rfl) (at8 hl hn n (i + 1) (by omega))
      · rw [if_neg (fun h => h2 h.2)]
        exact EvR.yes (by rw [decide_eq_false h2]; rfl) (EvR.ret' rfl)
    · rw [if_neg (fun h => h1 h.1)]
      exact EvR.yes (by rw [decide_eq_false h1]; rfl) (EvR.ret' rfl)
/-- CheckFrame. -/
theorem c8 {a b : List Int} (h1 : a.length ≤ 1000) (h2 : b.length ≤ 1000) : CallV vt1 8 [.agg [LT a, LT b]] (pairV (chk a b)) := by
  have key : EvR vt1 (fun ih => bindC (ih.call 45 [DV.bool (decide (b.length = a.length ∧ a.length ≠ 0)), DV.int 10]) fun r1 =>
      (bif isRes [{ ag := false, css := [CS.int] }] r1 then
       bindC (ih.call 45 [DV.bool (decide ((a.length : Int) ≤ 4)), DV.int 8]) fun r3 =>
        (bif isRes [{ ag := false, css := [CS.int] }] r3 then
         bindC (ih.call 44 [DV.list true false 1 [DV.int (asI r1), DV.int (asI r3)]]) fun r5 =>
          (bif isRes [{ ag := false, css := [CS.int] }] r5 then
           (bif !decide (asI r5 = 0) then
            some (DV.tup [DV.int 0, DV.int (asI r5)])
           else ih.at_ 8 0 (tblL [(1, DV.ptr 0 0), (32, LT a), (33, DV.int (a.length : Int)), (34, DV.int 0)]) [.box [LT a, LT b]])
          else none)
        else none)
      else none)) (pairV (chk a b)) := by
    refine EvR.call (c45 _ _) (EvR.yes (isRes_int _) (EvR.call (c45 _ _) (EvR.yes (isRes_int _) ?_)))
    simp only [asI_int]
    refine EvR.call (c44 (l := [_, _]) (by simp)) (EvR.yes (isRes_int _) ?_)
    simp only [asI_int]
    by_cases g1 : b.length = a.length ∧ a.length ≠ 0
    · by_cases g2 : a.length ≤ 4
      · have hc : chk a b = badAt a b a.length 0 := by unfold chk; rw [if_neg (by omega), if_neg (by omega)]
        rw [hc]
        refine EvR.no ?_ (at8 g1.1 h1 a.length 0 (by omega))
        have : ((a.length : Int) ≤ 4) := by omega
        simp [g1, this, firstNZ]
      · have hc : chk a b = (0, 8) := by unfold chk; rw [if_neg (by omega), if_pos (by omega)]
        rw [hc]
        have : ¬ ((a.length : Int) ≤ 4) := by omega
        refine EvR.yes ?_ (EvR.ret' ?_) <;> simp [g1, this, firstNZ, pairV]
    · have hc : chk a b = (0, 10) := by unfold chk; rw [if_pos (by omega)]
      rw [hc, decide_eq_false g1]
      refine EvR.yes ?_ (EvR.ret' ?_) <;> simp [firstNZ, pairV]
  refine CallV.by (fun ih => e8 ih _ _) ?_
  simp only [List.length_map]
  by_cases g : a.length = 0
  · refine EvR.no (decide_eq_false (by omega)) ?_
    have e : decide (b.length = a.length ∧ a.length ≠ 0) = false := by simp [g]
    rw [e] at key
    exact key
  · refine EvR.yes (decide_eq_true (by omega)) ?_
    have e : decide (b.length = a.length ∧ a.length ≠ 0) = decide ((b.length : Int) = (a.length : Int)) := by apply decide_eq_decide.2; omega
    rw [e] at key
    exact key
theorem at12 {a b : List Int} (hl : b.length = a.length) (hn : a.length ≤ 1000) : ∀ (n i : Nat), a.length = i + n → AtV vt1 12 0 (tblL [(1, .ptr 0 0), (4, .int (i : Int))]) [.box [LT a, LT b]] (pairV (badAt a b n i))
  | 0, i, h => AtV.by (fun ih => e12_0 ih _ _ _) (EvR.no (by simp; omega) (EvR.ret' rfl))
  | n + 1, i, h => by
    refine AtV.by (fun ih => e12_0 ih _ _ _) (EvR.yes (by simp; omega) (EvR.yes (okR_ok (by omega) (by omega)) ?_))
    rw [asI_ints, asI_ints, Int.toNat_natCast, w64_id (by omega) (by omega)]
    refine EvR.call (c50 _ _ _) (EvR.yes (isRes_bool _) ?_)
    simp only [badAt, asB_bool]
    by_cases h1 : 1 ≤ a.getD i 0 ∧ a.getD i 0 ≤ 10
    · refine EvR.no (by rw [decide_eq_true h1]; rfl) (EvR.yes (okR_ok (by omega) (by omega)) (EvR.call (c50 _ _ _) (EvR.yes (isRes_bool _) ?_)))
      simp only [asB_bool]
      by_cases h2 : 1 ≤ b.getD i 0 ∧ b.getD i 0 ≤ 20
      · rw [if_pos ⟨h1, h2⟩]
        exact EvR.no (by rw [decide_eq_true h2]; rfl) (at12 hl hn n (i + 1) (by omega))
      · rw [if_neg (fun h => h2 h.2)]
        exact EvR.yes (by rw [decide_eq_false h2]; rfl) (EvR.ret' rfl)
    · rw [if_neg (fun h => h1 h.1)]
      exact EvR.yes (by rw [decide_eq_false h1]; rfl) (EvR.ret' rfl)
/-- The reference's CheckFrame. -/
theorem c12 {a b : List Int} (h1 : a.length ≤ 1000) (h2 : b.length ≤ 1000) : CallV vt1 12 [.agg [LT a, LT b]] (pairV (chk a b)) := by
  refine CallV.by (fun ih => e12 ih _ _) ?_
  simp only [List.length_map]
  unfold chk
  by_cases g : a.length = 0
  · rw [if_pos (.inl g)]
    exact EvR.yes (decide_eq_true (by omega)) EvR.ret
  · refine EvR.no (decide_eq_false (by omega)) ?_
    by_cases g2 : b.length = a.length
    · rw [if_neg (by omega)]
      refine EvR.no (by simp; omega) ?_
      by_cases g3 : 4 < a.length
      · rw [if_pos g3]
        exact EvR.yes (by simp; omega) EvR.ret
      · rw [if_neg g3]
        exact EvR.no (by simp; omega) (at12 g2 h1 a.length 0 (by omega))
    · rw [if_pos (.inr g2)]
      exact EvR.yes (by simp; omega) EvR.ret
end Go.Proofs
/- Contracts of ModalFrames: polynomials. -/
namespace Go.Proofs
open Go Go.Sx Go.Vx
set_option maxRecDepth 100000
theorem inR_ok {l : List Int} {i : Int} (h0 : 0 ≤ i) (h : i < l.length) : inR i (ints l) = true := by rw [inR_ints]; simp [h0, h]
/-- A storey's springs. -/
def own (b : List Int) (i : Nat) : Int := if i + 1 < b.length then w64 (b.getD i 0 + b.getD (i + 1) 0) else b.getD i 0
def upd1 (o m : Int) (now : List Int) : Nat → Nat → List Int → List Int
  | 0, _, r => r
  | n + 1, p, r => upd1 o m now n (p + 1) ((r.set p (w64 (r.getD p 0 + w64 (o * now.getD p 0)))).set (p + 1) (w64 ((r.set p (w64 (r.getD p 0 + w64 (o * now.getD p 0)))).getD (p + 1) 0 - w64 (m * now.getD p 0))))
def upd2 (s : Int) (before : List Int) : Nat → Nat → List Int → List Int
  | 0, _, r => r
  | n + 1, p, r => upd2 s before n (p + 1) (r.set p (w64 (r.getD p 0 - w64 (w64 (s * s) * before.getD p 0))))
theorem upd1_len (o m : Int) (now : List Int) : ∀ n p r, (upd1 o m now n p r).length = r.length
  | 0, _, _ => rfl
  | n + 1, p, r => by rw [upd1, upd1_len]; simp
theorem upd2_len (s : Int) (before : List Int) : ∀ n p r, (upd2 s before n p r).length = r.length
  | 0, _, _ => rfl
  | n + 1, p, r => by rw [upd2, upd2_len]; simp
def stepP (a b : List Int) (i : Nat) (now before : List Int) : List Int :=
  let r := upd1 (own b i) (a.getD i 0) now now.length 0 (List.replicate (now.length + 1) 0)
  if 0 < i then upd2 (b.getD i 0) before before.length 0 r else r
def polyR (a b : List Int) : Nat → Nat → List Int → List Int → List Int
  | 0, _, now, _ => now
  | n + 1, i, now, before => polyR a b n (i + 1) (stepP a b i now before) now
theorem c51 {b : List Int} (a : List Int) (hb : b.length ≤ 1000) {i : Nat} (h : i < b.length) : CallV vt1 51 [.agg [LT a, LT b], .int (i : Int)] (.int (own b i)) := by
  refine CallV.by (fun ih => e51 ih _ _ _) ?_
  have hw : w64 ((i : Int) + 1) = ((i + 1 : Nat) : Int) := by rw [w64_id (by omega) (by omega)]; omega
  rw [hw, asI_ints, asI_ints, Int.toNat_natCast, Int.toNat_natCast]
  simp only [List.length_map]
  unfold own
  by_cases g : i + 1 < b.length
  · rw [if_pos g]
    exact EvR.yes (decide_eq_true (by omega)) (EvR.yes (okR_ok (by omega) (by omega)) (EvR.yes (okR_ok (by omega) (by omega)) EvR.ret))
  · rw [if_neg g]
    exact EvR.no (decide_eq_false (by omega)) (EvR.yes (okR_ok (by omega) (by omega)) EvR.ret)
theorem c48 {b : List Int} (a : List Int) (hb : b.length ≤ 1000) {i : Nat} : CallV vt1 48 [.agg [LT a, LT b], .int (i : Int)] (.int (if i + 1 < b.length then b.getD (i + 1) 0 else 0)) ∨ 1000 ≤ i := by
  by_cases hi : 1000 ≤ i
  · exact .inr hi
  refine .inl (CallV.by (fun ih => e48 ih _ _ _) ?_)
  have hw : w64 ((i : Int) + 1) = ((i + 1 : Nat) : Int) := by rw [w64_id (by omega) (by omega)]; omega
  rw [hw, asI_ints, Int.toNat_natCast]
  simp only [List.length_map]
  by_cases g : i + 1 < b.length
  · rw [if_pos g]
    exact EvR.yes (decide_eq_true (by omega)) (EvR.yes (okR_ok (by omega) (by omega)) EvR.ret)
  · rw [if_neg g]
    exact EvR.no (decide_eq_false (by omega)) EvR.ret
end Go.Proofs
/- Contracts of ModalFrames: the reference's polynomial. -/
namespace Go.Proofs
open Go Go.Sx Go.Vx
set_option maxRecDepth 100000
theorem isRow_ok {l : List Int} {i : Nat} (h : i < l.length) : isRow ⟨false, [.int]⟩ ((ints l).getD i .undef) = true := isRow_ints l i h
section
variable {a b now before : List Int} {i : Nat} {v : DV} (hab : b.length = a.length) (hn : a.length ≤ 1000) (hib : i < a.length) (hnow : now.length ≤ 2000) (hbef : before.length ≤ now.length)
include hab hn hib hnow hbef
theorem at14_2 (hi : 0 < i) {r' : List Int}
    (hk : AtV vt1 14 0 (tblL [(1, .ptr 0 0), (3, .own 1), (4, .own 2), (5, .int ((i + 1 : Nat) : Int))]) [.box [LT a, LT b], .row false 1 (ints r'), .row false 1 (ints now)] v) :
    ∀ (n p : Nat) (r : List Int), before.length = p + n → before.length ≤ r.length → upd2 (b.getD i 0) before n p r = r' →
      AtV vt1 14 2 (tblL [(1, .ptr 0 0), (3, .own 1), (4, .own 2), (5, .int (i : Int)), (6, .own 3), (8, .int (p : Int))]) [.box [LT a, LT b], .row false 1 (ints now), .row false 1 (ints before), .row false 1 (ints r)] v
  | 0, p, r, h1, h2, h3 => by
    refine AtV.by (fun ih => e14_2 ih _ _ _ _ _ _ _) (EvR.no (decide_eq_false (by simp; omega)) ?_)
    have hw : w64 ((i : Int) + 1) = ((i + 1 : Nat) : Int) := by rw [w64_id (by omega) (by omega)]; omega
    rw [hw]
    rw [upd2] at h3
    subst h3
    exact hk
  | n + 1, p, r, h1, h2, h3 => by
    have hw : w64 ((p : Int) + 1) = ((p + 1 : Nat) : Int) := by rw [w64_id (by omega) (by omega)]; omega
    refine AtV.by (fun ih => e14_2 ih _ _ _ _ _ _ _) (EvR.yes (decide_eq_true (by simp; omega)) (EvR.yes (decide_eq_true (by omega)) (EvR.yes (inR_ok (by omega) (by omega)) (EvR.yes (isRow_ok (by rw [Int.toNat_natCast]; omega)) (EvR.yes (okR_ok (by omega) (by omega)) (EvR.yes (okR_ok (by omega) (by omega)) (EvR.yes (inR_ok (by omega) (by omega)) (EvR.yes (isRow_ok (by rw [Int.toNat_natCast]; omega)) (EvR.yes (inR_ok (by omega) (by omega)) ?_)))))))))
    rw [asI_ints, asI_ints, asI_ints, Int.toNat_natCast, Int.toNat_natCast, hw, ints_set]
    rw [upd2] at h3
    exact at14_2 hi hk n (p + 1) _ (by omega) (by simpa using h2) h3
omit hbef in
theorem at14_1 {r' : List Int}
    (hk : AtV vt1 14 2 (tblL [(1, .ptr 0 0), (3, .own 1), (4, .own 2), (5, .int (i : Int)), (6, .own 3), (8, .int 0)]) [.box [LT a, LT b], .row false 1 (ints now), .row false 1 (ints before), .row false 1 (ints r')] v) :
    ∀ (n p : Nat) (r : List Int), now.length = p + n → r.length = now.length + 1 → upd1 (own b i) (a.getD i 0) now n p r = r' →
      AtV vt1 14 1 (tblL [(1, .ptr 0 0), (3, .own 1), (4, .own 2), (5, .int (i : Int)), (6, .own 3), (7, .int (p : Int))]) [.box [LT a, LT b], .row false 1 (ints now), .row false 1 (ints before), .row false 1 (ints r)] v
  | 0, p, r, h1, h2, h3 => by
    refine AtV.by (fun ih => e14_1 ih _ _ _ _ _ _ _) (EvR.no (decide_eq_false (by simp; omega)) ?_)
    rw [upd1] at h3
    subst h3
    exact hk
  | n + 1, p, r, h1, h2, h3 => by
    have hw : w64 ((p : Int) + 1) = ((p + 1 : Nat) : Int) := by rw [w64_id (by omega) (by omega)]; omega
    refine AtV.by (fun ih => e14_1 ih _ _ _ _ _ _ _) (EvR.yes (decide_eq_true (by simp; omega)) (EvR.yes (inR_ok (by omega) (by omega)) (EvR.yes (isRow_ok (by rw [Int.toNat_natCast]; omega)) (EvR.call (c51 a (by omega) (by omega)) (EvR.yes (isRes_int _) ?_)))))
    rw [asI_ints, asI_ints, asI_ints, Int.toNat_natCast, Int.toNat_natCast, hw, ints_set, asI_ints, Int.toNat_natCast, ints_set]
    rw [asI_int]
    rw [upd1] at h3
    refine (EvR.yes (inR_ok (by omega) (by omega)) (EvR.yes (isRow_ok (by omega)) (EvR.yes (inR_ok (by omega) (by omega)) (EvR.yes (inR_ok (by omega) (by simp; omega)) (EvR.yes (isRow_ok (by simp; omega)) (EvR.yes (okR_ok (by omega) (by omega)) (EvR.yes (inR_ok (by omega) (by omega)) (EvR.yes (isRow_ok (by omega)) (EvR.yes (inR_ok (by omega) (by simp; omega)) ?_)))))))))
    exact at14_1 hk n (p + 1) _ (by omega) (by simpa using h2) h3
end
end Go.Proofs
/- Contracts of ModalFrames: the reference's polynomial, outer loop. -/
namespace Go.Proofs
open Go Go.Sx Go.Vx
set_option maxRecDepth 100000
theorem stepP_len (a b : List Int) (i : Nat) (now before : List Int) : (stepP a b i now before).length = now.length + 1 := by
  unfold stepP
  simp only []
  split <;> simp [upd2_len, upd1_len]
theorem at14 {a b : List Int} (hab : b.length = a.length) (hn : a.length ≤ 1000) : ∀ (n i : Nat) (now before : List Int), a.length = i + n → now.length = i + 1 → before.length ≤ now.length →
    AtV vt1 14 0 (tblL [(1, .ptr 0 0), (3, .own 1), (4, .own 2), (5, .int (i : Int))]) [.box [LT a, LT b], .row false 1 (ints now), .row false 1 (ints before)] (L (polyR a b n i now before))
  | 0, i, now, before, h1, h2, h3 => AtV.by (fun ih => e14_0 ih _ _ _ _ _) (EvR.no (decide_eq_false (by simp; omega)) (EvR.ret' rfl))
  | n + 1, i, now, before, h1, h2, h3 => by
    have hnx := at14 hab hn n (i + 1) (stepP a b i now before) now (by omega) (by rw [stepP_len]; omega) (by rw [stepP_len]; omega)
    have hw : w64 (((ints now).length : Int) + 1) = ((now.length + 1 : Nat) : Int) := by rw [List.length_map, w64_id (by omega) (by omega)]; omega
    refine AtV.by (fun ih => e14_0 ih _ _ _ _ _) (EvR.yes (decide_eq_true (by simp; omega)) ?_)
    rw [hw]
    refine EvR.yes (by simp; omega) ?_
    rw [Int.toNat_natCast, ints_rep]
    refine at14_1 (before := before) hab hn (by omega) (by omega) (r' := upd1 (own b i) (a.getD i 0) now now.length 0 (List.replicate (now.length + 1) 0)) ?_ now.length 0 _ (by omega) (by simp) rfl
    rw [polyR]
    by_cases hi : 0 < i
    · refine at14_2 hab hn (by omega) (by omega) h3 hi (r' := stepP a b i now before) hnx before.length 0 _ (by omega) (by rw [upd1_len]; simp; omega) ?_
      unfold stepP
      simp only []
      rw [if_pos hi]
    · have e : stepP a b i now before = upd1 (own b i) (a.getD i 0) now now.length 0 (List.replicate (now.length + 1) 0) := by
        unfold stepP
        simp only []
        rw [if_neg hi]
      have hwi : w64 ((i : Int) + 1) = ((i + 1 : Nat) : Int) := by rw [w64_id (by omega) (by omega)]; omega
      rw [e] at hnx ⊢
      refine AtV.by (fun ih => e14_2 ih _ _ _ _ _ _ _) (EvR.cond (fun _ => EvR.no (decide_eq_false (by omega)) ?_) (fun _ => ?_))
      · rw [hwi]; exact hnx
      · rw [hwi]; exact hnx
/-- The reference's polynomial. -/
theorem c14 {a b : List Int} (hab : b.length = a.length) (hn : a.length ≤ 1000) : CallV vt1 14 [.agg [LT a, LT b]] (L (polyR a b a.length 0 [1] [0])) :=
  CallV.by (fun ih => e14 ih _ _) (at14 hab hn a.length 0 [1] [0] (by omega) rfl (by simp))
end Go.Proofs
/- Contracts of ModalFrames: the program's polynomial. -/
namespace Go.Proofs
open Go Go.Sx Go.Vx
set_option maxRecDepth 100000
section
variable {a b now before : List Int} {i : Nat} {v : DV} (hab : b.length = a.length) (hn : a.length ≤ 999) (hib : i < a.length) (hnow : now.length ≤ 2000) (hbef : before.length ≤ now.length)
include hab hn hib hnow hbef
theorem at10_2 {r' : List Int}
    (hk : AtV vt1 10 0 (tblL [(4, .ptr 0 0), (6, .own 1), (7, .own 2), (26, L b), (27, .int (a.length : Int)), (28, .int ((i + 1 : Nat) : Int))]) [.box [L a, L b], .row false 1 (ints now), .row false 1 (ints r')] v) :
    ∀ (n p : Nat) (r : List Int), before.length = p + n → before.length ≤ r.length → upd2 (b.getD i 0) before n p r = r' →
      AtV vt1 10 2 (tblL [(4, .ptr 0 0), (7, .own 1), (9, .int (b.getD i 0)), (10, .own 2), (26, L b), (27, .int (a.length : Int)), (28, .int (i : Int)), (74, .own 3), (75, .int (before.length : Int)), (76, .int (p : Int))]) [.box [L a, L b], .row false 1 (ints now), .row false 1 (ints r), .row false 1 (ints before)] v
  | 0, p, r, h1, h2, h3 => by
    refine AtV.by (fun ih => e10_2 ih _ _ _ _ _ _ _ _ _ _ _) (EvR.no (decide_eq_false (by omega)) ?_)
    have hw : w64 ((i : Int) + 1) = ((i + 1 : Nat) : Int) := by rw [w64_id (by omega) (by omega)]; omega
    rw [hw]
    rw [upd2] at h3
    subst h3
    exact hk
  | n + 1, p, r, h1, h2, h3 => by
    have hw : w64 ((p : Int) + 1) = ((p + 1 : Nat) : Int) := by rw [w64_id (by omega) (by omega)]; omega
    refine AtV.by (fun ih => e10_2 ih _ _ _ _ _ _ _ _ _ _ _) (EvR.yes (decide_eq_true (by omega)) (EvR.yes (inR_ok (by omega) (by omega)) (EvR.yes (isRow_ok (by rw [Int.toNat_natCast]; omega)) (EvR.yes (inR_ok (by omega) (by omega)) (EvR.yes (isRow_ok (by rw [Int.toNat_natCast]; omega)) (EvR.yes (inR_ok (by omega) (by omega)) ?_))))))
    rw [asI_ints, asI_ints, Int.toNat_natCast, hw, ints_set]
    rw [upd2] at h3
    exact at10_2 hk n (p + 1) _ (by omega) (by simpa using h2) h3
omit hbef in
theorem at10_1 {r' : List Int} (hs : 0 ≤ b.getD i 0 ∧ b.getD i 0 ≤ 1000)
    (hk : 0 < i → AtV vt1 10 2 (tblL [(4, .ptr 0 0), (7, .own 1), (9, .int (b.getD i 0)), (10, .own 2), (26, L b), (27, .int (a.length : Int)), (28, .int (i : Int)), (74, .own 3), (75, .int (before.length : Int)), (76, .int 0)]) [.box [L a, L b], .row false 1 (ints now), .row false 1 (ints r'), .row false 1 (ints before)] v)
    (hk0 : ¬ 0 < i → AtV vt1 10 0 (tblL [(4, .ptr 0 0), (6, .own 1), (7, .own 2), (26, L b), (27, .int (a.length : Int)), (28, .int ((i + 1 : Nat) : Int))]) [.box [L a, L b], .row false 1 (ints now), .row false 1 (ints r')] v) :
    ∀ (n p : Nat) (r : List Int), now.length = p + n → r.length = now.length + 1 → upd1 (own b i) (a.getD i 0) now n p r = r' →
      AtV vt1 10 1 (tblL [(4, .ptr 0 0), (6, .own 1), (7, .own 2), (8, .int (i : Int)), (9, .int (b.getD i 0)), (10, .own 3), (26, L b), (27, .int (a.length : Int)), (28, .int (i : Int)), (37, .own 2), (38, .int (now.length : Int)), (39, .int (p : Int))]) [.box [L a, L b], .row false 1 (ints before), .row false 1 (ints now), .row false 1 (ints r)] v
  | 0, p, r, h1, h2, h3 => by
    have hw : w64 ((i : Int) + 1) = ((i + 1 : Nat) : Int) := by rw [w64_id (by omega) (by omega)]; omega
    rw [upd1] at h3
    subst h3
    refine AtV.by (fun ih => e10_1 ih _ _ _ _ _ _ _ _ _ _ _ _) (EvR.no (decide_eq_false (by omega)) (EvR.cond (fun g => ?_) (fun g => ?_)))
    · have := hk (by have := of_decide_eq_true g; omega)
      rw [List.length_map]
      exact this
    · have := hk0 (by have := of_decide_eq_false g; omega)
      rw [hw]
      exact this
  | n + 1, p, r, h1, h2, h3 => by
    have hw : w64 ((p : Int) + 1) = ((p + 1 : Nat) : Int) := by rw [w64_id (by omega) (by omega)]; omega
    have ho : w64 (b.getD i 0 + (if i + 1 < b.length then b.getD (i + 1) 0 else 0)) = own b i := by
      unfold own
      split
      · rfl
      · rw [Int.add_zero, w64_id (by omega) (by omega)]
    have c := (c48 (b := b) a (by omega) (i := i)).resolve_right (by omega)
    refine AtV.by (fun ih => e10_1 ih _ _ _ _ _ _ _ _ _ _ _ _) (EvR.yes (decide_eq_true (by omega)) (EvR.yes (inR_ok (by omega) (by omega)) (EvR.yes (isRow_ok (by rw [Int.toNat_natCast]; omega)) (EvR.yes (inR_ok (by omega) (by omega)) (EvR.yes (isRow_ok (by rw [Int.toNat_natCast]; omega)) (EvR.call c (EvR.yes (isRes_int _) ?_)))))))
    rw [asI_ints, asI_ints, asI_ints, Int.toNat_natCast, Int.toNat_natCast, hw, asI_int, ho, ints_set, asI_ints, Int.toNat_natCast, ints_set]
    rw [upd1] at h3
    refine (EvR.yes (inR_ok (by omega) (by omega)) (EvR.yes (inR_ok (by omega) (by simp; omega)) (EvR.yes (isRow_ok (by simp; omega)) (EvR.yes (okR_ok (by omega) (by omega)) (EvR.yes (inR_ok (by omega) (by simp; omega)) ?_)))))
    exact at10_1 hs hk hk0 n (p + 1) _ (by omega) (by simpa using h2) h3
end
end Go.Proofs
/- Contracts of ModalFrames: the program's polynomial, whole. -/
namespace Go.Proofs
open Go Go.Sx Go.Vx
set_option maxRecDepth 100000
theorem badAt_ok {a b : List Int} : ∀ {n i : Nat}, (badAt a b n i).2 = 0 → ∀ j, i ≤ j → j < i + n → (1 ≤ a.getD j 0 ∧ a.getD j 0 ≤ 10) ∧ (1 ≤ b.getD j 0 ∧ b.getD j 0 ≤ 20)
  | 0, i, _, j, h1, h2 => by omega
  | n + 1, i, h, j, h1, h2 => by
    rw [badAt] at h
    split at h
    · rename_i g
      by_cases e : j = i
      · subst e; exact g
      · exact badAt_ok h j (by omega) (by omega)
    · simp at h
theorem chk_ok {a b : List Int} (h : (chk a b).2 = 0) : 0 < a.length ∧ b.length = a.length ∧ a.length ≤ 4 ∧ ∀ j, j < a.length → (1 ≤ a.getD j 0 ∧ a.getD j 0 ≤ 10) ∧ (1 ≤ b.getD j 0 ∧ b.getD j 0 ≤ 20) := by
  unfold chk at h
  split at h
  · simp at h
  · split at h
    · simp at h
    · exact ⟨by omega, by omega, by omega, fun j hj => badAt_ok h j (by omega) (by omega)⟩
theorem c47 {a b : List Int} (h1 : a.length ≤ 1000) (h2 : b.length ≤ 1000) : CallV vt1 47 [.agg [L a, L b]] (.tup [.agg [L a, L b], .int (chk a b).2]) :=
  CallV.by (fun ih => e47 ih _ _) (EvR.call (c8 h1 h2) (EvR.yes (isRes_ii _ _) EvR.ret))
theorem at10 {a b : List Int} (hab : b.length = a.length) (hn : a.length ≤ 999) (hs : ∀ j, j < a.length → 0 ≤ b.getD j 0 ∧ b.getD j 0 ≤ 1000) : ∀ (n i : Nat) (now before : List Int), a.length = i + n → now.length = i + 1 → before.length ≤ now.length →
    AtV vt1 10 0 (tblL [(4, .ptr 0 0), (6, .own 1), (7, .own 2), (26, L b), (27, .int (a.length : Int)), (28, .int (i : Int))]) [.box [L a, L b], .row false 1 (ints before), .row false 1 (ints now)] (.tup [L (polyR a b n i now before), .int 0])
  | 0, i, now, before, h1, h2, h3 => AtV.by (fun ih => e10_0 ih _ _ _ _ _ _ _) (EvR.no (decide_eq_false (by omega)) (EvR.ret' rfl))
  | n + 1, i, now, before, h1, h2, h3 => by
    have hnx := at10 hab hn hs n (i + 1) (stepP a b i now before) now (by omega) (by rw [stepP_len]; omega) (by rw [stepP_len]; omega)
    have hw : w64 (((ints now).length : Int) + 1) = ((now.length + 1 : Nat) : Int) := by rw [List.length_map, w64_id (by omega) (by omega)]; omega
    refine AtV.by (fun ih => e10_0 ih _ _ _ _ _ _ _) (EvR.yes (decide_eq_true (by omega)) (EvR.yes (okR_ok (by omega) (by omega)) ?_))
    rw [hw]
    refine EvR.yes (by simp; omega) ?_
    rw [Int.toNat_natCast, ints_rep, asI_ints, List.length_map, Int.toNat_natCast]
    rw [polyR]
    refine at10_1 (before := before) hab hn (by omega) (by omega) (r' := upd1 (own b i) (a.getD i 0) now now.length 0 (List.replicate (now.length + 1) 0)) (hs i (by omega)) (fun hi => ?_) (fun hi => ?_) now.length 0 _ (by omega) (by simp) rfl
    · refine at10_2 hab hn (by omega) (by omega) h3 (r' := stepP a b i now before) hnx before.length 0 _ (by omega) (by rw [upd1_len]; simp; omega) ?_
      unfold stepP
      simp only []
      rw [if_pos hi]
    · have e : stepP a b i now before = upd1 (own b i) (a.getD i 0) now now.length 0 (List.replicate (now.length + 1) 0) := by
        unfold stepP
        simp only []
        rw [if_neg hi]
      rw [e] at hnx
      rw [e]
      exact hnx
/-- PolynomialOf. -/
theorem c10 {a b : List Int} (h1 : a.length ≤ 1000) (h2 : b.length ≤ 1000) : CallV vt1 10 [.agg [L a, L b]] (.tup (if (chk a b).2 = 0 then [L (polyR a b a.length 0 [1] [0]), .int 0] else [L [], .int (chk a b).2])) := by
  refine CallV.by (fun ih => e10 ih _ _) (EvR.call (c47 h1 h2) (EvR.yes rfl ?_))
  by_cases h : (chk a b).2 = 0
  · rw [if_pos h]
    obtain ⟨q1, q2, q3, q4⟩ := chk_ok h
    refine EvR.no (by simp [h]) ?_
    have := at10 q2 (by omega) (fun j hj => by have := (q4 j hj).2; omega) a.length 0 [1] [0] (by omega) rfl (by simp)
    rw [← q2] at this
    simp only [tupL_tup, List.getD_cons_zero, cellOf_agg, List.getD_cons_succ, asR_list, List.length_map]
    rw [← q2]
    exact this
  · rw [if_neg h]
    exact EvR.yes (by simp [h]) EvR.ret
end Go.Proofs
/- Contracts: Ints. -/
namespace Go.Proofs
open Go Go.Sx Go.Vx
set_option maxRecDepth 100000
theorem at13 {l m : List Int} (hl : l.length = m.length) (hn : l.length ≤ 1000000) : ∀ (n i : Nat), l.length = i + n → AtV vt1 13 0 (tblL [(0, LT l), (1, LT m), (5, .int (i : Int))]) [] (.bool (decide (l.drop i = m.drop i)))
  | 0, i, h => AtV.by (fun ih => e13_0 ih _ _ _) (EvR.no (decide_eq_false (by simp; omega)) (EvR.ret' (by rw [List.drop_eq_nil_of_le (by omega), List.drop_eq_nil_of_le (by omega)]; rfl)))
  | n + 1, i, h => by
    have hd : ∀ k : List Int, i < k.length → k.drop i = k.getD i 0 :: k.drop (i + 1) := fun k hk => by
      rw [List.drop_eq_getElem_cons hk, List.getD_eq_getElem?_getD, List.getElem?_eq_getElem hk]; rfl
    refine AtV.by (fun ih => e13_0 ih _ _ _) (EvR.yes (decide_eq_true (by simp; omega)) (EvR.yes (okR_ok (by omega) (by omega)) (EvR.yes (okR_ok (by omega) (by omega)) ?_)))
    rw [asI_ints, asI_ints, Int.toNat_natCast, w64_id (by omega) (by omega), hd l (by omega), hd m (by omega)]
    by_cases g : l.getD i 0 = m.getD i 0
    · refine EvR.no (by rw [decide_eq_true g]; rfl) ?_
      have := at13 hl hn n (i + 1) (by omega)
      rw [g]
      simp only [List.cons.injEq, true_and]
      exact this
    · refine EvR.yes (by rw [decide_eq_false g]; rfl) (EvR.ret' ?_)
      have : ¬ (l.getD i 0 :: l.drop (i + 1) = m.getD i 0 :: m.drop (i + 1)) := fun e => g (by injection e)
      rw [decide_eq_false this]
/-- Ints. -/
theorem c13 {l m : List Int} (hn : l.length ≤ 1000000) : CallV vt1 13 [LT l, LT m] (.bool (decide (l = m))) := by
  refine CallV.by (fun ih => e13 ih _ _) ?_
  simp only [List.length_map]
  by_cases h : l.length = m.length
  · have := at13 h hn l.length 0 (by omega)
    rw [List.drop_zero, List.drop_zero] at this
    exact EvR.no (by rw [decide_eq_true (by omega)]; rfl) this
  · refine EvR.yes (by rw [decide_eq_false (by omega)]; rfl) (EvR.ret' ?_)
    have : ¬ l = m := fun e => h (by rw [e])
    rw [decide_eq_false this]
end Go.Proofs
/- Contracts of ModalFrames: divisor, fraction. -/
namespace Go.Proofs
open Go Go.Sx Go.Vx
set_option maxRecDepth 100000
theorem at94_1 {l : List Int} {len i : Int} {v : DV} {G : Nat} (hi : 0 ≤ i ∧ i ≤ 1000000)
    (hk : ∀ g : Int, g.natAbs = G → AtV vt1 94 0 (tblL [(3, .int g), (6, LT l), (7, .int len), (8, .int (i + 1))]) [] v) :
    ∀ (n : Nat) (x y : Int), y.natAbs ≤ n → Int.gcd x y = G →
      AtV vt1 94 1 (tblL [(3, .int x), (5, .int y), (6, LT l), (7, .int len), (8, .int i)]) [] v := by
  intro n
  induction n with
  | zero =>
    intro x y hy hg
    have : y = 0 := by omega
    subst this
    refine AtV.by (fun ih => e94_1 ih _ _ _ _ _) (EvR.no (by simp) ?_)
    rw [w64_id (by omega) (by omega)]
    exact hk x (by rw [Int.gcd_zero_right] at hg; exact hg)
  | succ n ih =>
    intro x y hy hg
    by_cases h0 : y = 0
    · subst h0
      refine AtV.by (fun ih => e94_1 ih _ _ _ _ _) (EvR.no (by simp) ?_)
      rw [w64_id (by omega) (by omega)]
      exact hk x (by rw [Int.gcd_zero_right] at hg; exact hg)
    · refine AtV.by (fun ih => e94_1 ih _ _ _ _ _) (EvR.yes (by rw [decide_eq_false h0]; rfl) (EvR.no (decide_eq_false h0) ?_))
      have hm : (x.tmod y).natAbs = x.natAbs % y.natAbs := Int.natAbs_tmod x y
      have hlt : x.natAbs % y.natAbs < y.natAbs := Nat.mod_lt _ (by omega)
      refine ih y (x.tmod y) (by omega) ?_
      rw [← hg]
      show Nat.gcd y.natAbs (x.tmod y).natAbs = Nat.gcd x.natAbs y.natAbs
      rw [hm, Nat.gcd_comm y.natAbs, ← Nat.gcd_rec, Nat.gcd_comm]
/-- divisor of two numbers. -/
theorem c94 {x y : Int} (hx : -1000000000000000 ≤ x ∧ x ≤ 1000000000000000) : CallV vt1 94 [LT [x, y]] (.int (Int.gcd x y : Nat)) ∨ y.natAbs > 1000000000000000 := by
  by_cases hy : y.natAbs > 1000000000000000
  · exact .inr hy
  refine .inl (CallV.by (fun ih => e94 ih _) ?_)
  have hgb : Int.gcd x y ≤ 1000000000000000 := by
    by_cases h0 : x = 0
    · subst h0; rw [Int.gcd_zero_left]; omega
    · have := Nat.le_of_dvd (by omega) (Int.gcd_dvd_natAbs_left x y)
      omega
  have fin : ∀ g : Int, g.natAbs = Int.gcd x y → AtV vt1 94 0 (tblL [(3, .int g), (6, LT [x, y]), (7, .int 2), (8, .int (1 + 1))]) [] (.int (Int.gcd x y : Nat)) := by
    intro g hg
    refine AtV.by (fun ih => e94_0 ih _ _ _ _) (EvR.no (by rfl) (EvR.ret' ?_))
    rw [w64_id (by omega) (by omega)]
    congr 1
    omega
  have mid : ∀ g : Int, g.natAbs = x.natAbs → AtV vt1 94 0 (tblL [(3, .int g), (6, LT [x, y]), (7, .int 2), (8, .int (0 + 1))]) [] (.int (Int.gcd x y : Nat)) := by
    intro g hg
    refine AtV.by (fun ih => e94_0 ih _ _ _ _) (EvR.yes (by rfl) (EvR.yes (okR_ok (by omega) (by simp)) ?_))
    refine at94_1 (i := 1) (G := Int.gcd x y) (by omega) fin y.natAbs g y (Nat.le_refl _) ?_
    show Nat.gcd g.natAbs y.natAbs = Nat.gcd x.natAbs y.natAbs
    rw [hg]
  refine AtV.by (fun ih => e94_0 ih _ _ _ _) (EvR.yes (by rfl) (EvR.yes (okR_ok (l := [x, y]) (by omega) (by simp)) ?_))
  refine at94_1 (i := 0) (G := x.natAbs) (by omega) mid x.natAbs 0 x (Nat.le_refl _) ?_
  rw [Int.gcd_zero_left]
end Go.Proofs
/- Contracts of ModalFrames: fraction, WideInt, RatioFrac. -/
namespace Go.Proofs
open Go Go.Sx Go.Vx
set_option maxRecDepth 100000
/-- A fraction of ints. -/
def FR (q : Rat) : DV := .agg [.int q.num, .int (q.den : Int)]
theorem divInt_parts {x y : Int} (hy : 0 < y) : (Rat.divInt x y).num = x / (Int.gcd x y : Int) ∧ ((Rat.divInt x y).den : Int) = y / (Int.gcd x y : Int) := by
  rw [Rat.num_divInt, Rat.den_divInt, if_neg (by omega), Int.sign_eq_one_of_pos hy, Int.one_mul, Int.gcd_comm, Int.natCast_ediv]
  refine ⟨rfl, ?_⟩
  have : (y.natAbs : Int) = y := by omega
  rw [this]
theorem c49 {x y : Int} (hx : -1000000000000000 ≤ x ∧ x ≤ 1000000000000000) (hy : 0 < y ∧ y ≤ 1000000000000000) : CallV vt1 49 [.int x, .int y] (FR (Rat.divInt x y)) := by
  have c := (c94 (x := x) (y := y) hx).resolve_right (by omega)
  have hg : 0 < (Int.gcd x y : Int) := by have := Int.gcd_pos_of_ne_zero_right x (b := y) (by omega); omega
  have hgl : Int.gcd x y ≤ y.natAbs := Nat.le_of_dvd (by omega) (Int.gcd_dvd_natAbs_right x y)
  obtain ⟨e1, e2⟩ := divInt_parts (x := x) hy.1
  refine CallV.by (fun ih => e49 ih _ _) (EvR.call c (EvR.yes (isRes_int _) (EvR.no (decide_eq_false (by rw [asI_int]; omega)) (EvR.no (decide_eq_false (by rw [asI_int]; omega)) (EvR.ret' ?_)))))
  unfold FR
  rw [e1, e2, asI_int]
  have d1 : (Int.gcd x y : Int) ∣ x := Int.gcd_dvd_left x y
  have d2 : (Int.gcd x y : Int) ∣ y := Int.gcd_dvd_right x y
  rw [Int.tdiv_eq_ediv_of_dvd d1, Int.tdiv_eq_ediv_of_dvd d2]
  generalize hG : (Int.gcd x y : Int) = g at *
  have b1 : (x / g).natAbs ≤ x.natAbs := by
    obtain ⟨k, rfl⟩ := d1
    rw [Int.mul_ediv_cancel_left _ (by omega), Int.natAbs_mul]
    exact Nat.le_mul_of_pos_left _ (by omega)
  have b2 : (y / g).natAbs ≤ y.natAbs := by
    obtain ⟨k, rfl⟩ := d2
    rw [Int.mul_ediv_cancel_left _ (by omega), Int.natAbs_mul]
    exact Nat.le_mul_of_pos_left _ (by omega)
  rw [w64_id (by omega) (by omega), w64_id (by omega) (by omega)]
end Go.Proofs
/- Contracts of SensorImages: small functions. -/
namespace Go.Proofs
open Go Go.Sx Go.Vx
set_option maxRecDepth 100000
theorem c88 (b : Bool) (e : Int) : CallV vt1 88 [.bool b, .int e] (.int (if b then 0 else e)) := by
  refine CallV.by (fun ih => e88 ih _ _) (EvR.cond (fun h => EvR.ret' (by simp [h])) (fun h => EvR.ret' (by simp [h])))
theorem c114 (n lo hi : Int) : CallV vt1 114 [.int n, .int lo, .int hi] (.bool (decide (lo ≤ n ∧ n ≤ hi))) := by
  refine CallV.by (fun ih => e114 ih _ _ _) ?_
  by_cases h1 : lo ≤ n
  · exact EvR.yes (by simp [h1]) (EvR.ret' (by simp [h1]))
  · exact EvR.no (by simp [h1]) (EvR.ret' (by simp [h1]))
theorem at87 {l : List Int} (hl : l.length ≤ 1000) : ∀ (n i : Nat), l.length = i + n → AtV vt1 87 0 (tblL [(5, LT l), (6, .int (l.length : Int)), (7, .int (i : Int))]) [] (.int (firstNZ (l.drop i)))
  | 0, i, h => AtV.by (fun ih => e87_0 ih _ _ _) (EvR.no (by simp; omega) (EvR.ret' (by rw [List.drop_eq_nil_of_le (by omega)]; rfl)))
  | n + 1, i, h => by
    have hd : l.drop i = l.getD i 0 :: l.drop (i + 1) := by
      rw [List.drop_eq_getElem_cons (by omega), List.getD_eq_getElem?_getD, List.getElem?_eq_getElem (by omega)]; rfl
    refine AtV.by (fun ih => e87_0 ih _ _ _) (EvR.yes (by simp; omega) (EvR.yes (okR_ok (by omega) (by omega)) ?_))
    rw [asI_ints, Int.toNat_natCast, hd, firstNZ]
    by_cases h0 : l.getD i 0 = 0
    · rw [if_pos h0, w64_id (by omega) (by omega)]
      exact EvR.no (by rw [h0]; rfl) (at87 hl n (i + 1) (by omega))
    · rw [if_neg h0]
      exact EvR.yes (by simp only [h0, decide_false, Bool.not_false]) (EvR.ret' rfl)
theorem c87 {l : List Int} (hl : l.length ≤ 1000) : CallV vt1 87 [LT l] (.int (firstNZ l)) := by
  refine CallV.by (fun ih => e87 ih _) ?_
  have := at87 hl l.length 0 (by omega)
  simp only [List.length_map]
  exact this
theorem at110_1 {l : List Int} {len i : Int} {v : DV} {G : Nat} (hi : 0 ≤ i ∧ i ≤ 1000000)
    (hk : ∀ g : Int, g.natAbs = G → AtV vt1 110 0 (tblL [(3, .int g), (6, LT l), (7, .int len), (8, .int (i + 1))]) [] v) :
    ∀ (n : Nat) (x y : Int), y.natAbs ≤ n → Int.gcd x y = G →
      AtV vt1 110 1 (tblL [(3, .int x), (5, .int y), (6, LT l), (7, .int len), (8, .int i)]) [] v := by
  intro n
  induction n with
  | zero =>
    intro x y hy hg
    have : y = 0 := by omega
    subst this
    refine AtV.by (fun ih => e110_1 ih _ _ _ _ _) (EvR.no (by simp) ?_)
    rw [w64_id (by omega) (by omega)]
    exact hk x (by rw [Int.gcd_zero_right] at hg; exact hg)
  | succ n ih =>
    intro x y hy hg
    by_cases h0 : y = 0
    · subst h0
      refine AtV.by (fun ih => e110_1 ih _ _ _ _ _) (EvR.no (by simp) ?_)
      rw [w64_id (by omega) (by omega)]
      exact hk x (by rw [Int.gcd_zero_right] at hg; exact hg)
    · refine AtV.by (fun ih => e110_1 ih _ _ _ _ _) (EvR.yes (by rw [decide_eq_false h0]; rfl) (EvR.no (decide_eq_false h0) ?_))
      have hm : (x.tmod y).natAbs = x.natAbs % y.natAbs := Int.natAbs_tmod x y
      have hlt : x.natAbs % y.natAbs < y.natAbs := Nat.mod_lt _ (by omega)
      refine ih y (x.tmod y) (by omega) ?_
      rw [← hg]
      show Nat.gcd y.natAbs (x.tmod y).natAbs = Nat.gcd x.natAbs y.natAbs
      rw [hm, Nat.gcd_comm y.natAbs, ← Nat.gcd_rec, Nat.gcd_comm]
theorem c110 {x y : Int} (hx : -1000000000000000 ≤ x ∧ x ≤ 1000000000000000) : CallV vt1 110 [LT [x, y]] (.int (Int.gcd x y : Nat)) ∨ y.natAbs > 1000000000000000 := by
  by_cases hy : y.natAbs > 1000000000000000
  · exact .inr hy
  refine .inl (CallV.by (fun ih => e110 ih _) ?_)
  have hgb : Int.gcd x y ≤ 1000000000000000 := by
    by_cases h0 : x = 0
    · subst h0; rw [Int.gcd_zero_left]; omega
    · have := Nat.le_of_dvd (by omega) (Int.gcd_dvd_natAbs_left x y)
      omega
  have fin : ∀ g : Int, g.natAbs = Int.gcd x y → AtV vt1 110 0 (tblL [(3, .int g), (6, LT [x, y]), (7, .int 2), (8, .int (1 + 1))]) [] (.int (Int.gcd x y : Nat)) := by
    intro g hg
    refine AtV.by (fun ih => e110_0 ih _ _ _ _) (EvR.no (by rfl) (EvR.ret' ?_))
    rw [w64_id (by omega) (by omega)]
    congr 1
    omega
  have mid : ∀ g : Int, g.natAbs = x.natAbs → AtV vt1 110 0 (tblL [(3, .int g), (6, LT [x, y]), (7, .int 2), (8, .int (0 + 1))]) [] (.int (Int.gcd x y : Nat)) := by
    intro g hg
    refine AtV.by (fun ih => e110_0 ih _ _ _ _) (EvR.yes (by rfl) (EvR.yes (okR_ok (by omega) (by simp)) ?_))
    refine at110_1 (i := 1) (G := Int.gcd x y) (by omega) fin y.natAbs g y (Nat.le_refl _) ?_
    show Nat.gcd g.natAbs y.natAbs = Nat.gcd x.natAbs y.natAbs
    rw [hg]
  refine AtV.by (fun ih => e110_0 ih _ _ _ _) (EvR.yes (by rfl) (EvR.yes (okR_ok (l := [x, y]) (by omega) (by simp)) ?_))
  refine at110_1 (i := 0) (G := x.natAbs) (by omega) mid x.natAbs 0 x (Nat.le_refl _) ?_
  rw [Int.gcd_zero_left]
theorem c85 {x y : Int} (hx : -1000000000000000 ≤ x ∧ x ≤ 1000000000000000) (hy : 0 < y ∧ y ≤ 1000000000000000) : CallV vt1 85 [.int x, .int y] (FR (Rat.divInt x y)) := by
  have c := (c110 (x := x) (y := y) hx).resolve_right (by omega)
  have hg : 0 < (Int.gcd x y : Int) := by have := Int.gcd_pos_of_ne_zero_right x (b := y) (by omega); omega
  have hgl : Int.gcd x y ≤ y.natAbs := Nat.le_of_dvd (by omega) (Int.gcd_dvd_natAbs_right x y)
  obtain ⟨e1, e2⟩ := divInt_parts (x := x) hy.1
  refine CallV.by (fun ih => e85 ih _ _) (EvR.call c (EvR.yes (isRes_int _) (EvR.no (decide_eq_false (by rw [asI_int]; omega)) (EvR.no (decide_eq_false (by rw [asI_int]; omega)) (EvR.ret' ?_)))))
  unfold FR
  rw [e1, e2, asI_int]
  have d1 : (Int.gcd x y : Int) ∣ x := Int.gcd_dvd_left x y
  have d2 : (Int.gcd x y : Int) ∣ y := Int.gcd_dvd_right x y
  rw [Int.tdiv_eq_ediv_of_dvd d1, Int.tdiv_eq_ediv_of_dvd d2]
  generalize hG : (Int.gcd x y : Int) = g at *
  have b1 : (x / g).natAbs ≤ x.natAbs := by
    obtain ⟨k, rfl⟩ := d1
    rw [Int.mul_ediv_cancel_left _ (by omega), Int.natAbs_mul]
    exact Nat.le_mul_of_pos_left _ (by omega)
  have b2 : (y / g).natAbs ≤ y.natAbs := by
    obtain ⟨k, rfl⟩ := d2
    rw [Int.mul_ediv_cancel_left _ (by omega), Int.natAbs_mul]
    exact Nat.le_mul_of_pos_left _ (by omega)
  rw [w64_id (by omega) (by omega), w64_id (by omega) (by omega)]
end Go.Proofs
/- Contracts of SensorImages: errors of images. -/
namespace Go.Proofs
open Go Go.Sx Go.Vx
set_option maxRecDepth 100000
/-- Lists of lists as they are handed to a call. -/
abbrev LL (im : List (List Int)) : DV := .list true false 1 (im.map L)
abbrev LLf (im : List (List Int)) : DV := .list false false 1 (im.map L)
theorem getD_LL {im : List (List Int)} {i : Nat} (h : i < im.length) : (im.map L).getD i DV.undef = L (im.getD i []) := by
  simp [List.getD_eq_getElem?_getD, h]
theorem okR_LL {im : List (List Int)} {i : Int} (h0 : 0 ≤ i) (h : i < im.length) : okR (im.map L) i ⟨false, [.list 1]⟩ = true := by
  unfold okR inR
  have h1 : i.toNat < im.length := by omega
  rw [getD_LL h1]
  simp [h0, h]
  rfl
theorem dropI {α : Type} (d : α) {l : List α} {i : Nat} (h : i < l.length) : l.drop i = l.getD i d :: l.drop (i + 1) := by
  rw [List.drop_eq_getElem_cons h, List.getD_eq_getElem?_getD, List.getElem?_eq_getElem h]; rfl
/-- Where the first one is, or -1. -/
def idxF (p : Nat → Bool) : Nat → Nat → Int
  | 0, _ => -1
  | n + 1, i => if p i then (i : Int) else idxF p n (i + 1)
theorem idxF_any {α : Type} (p : α → Bool) (d : α) (l : List α) : ∀ (n i : Nat), l.length = i + n → decide (0 ≤ idxF (fun j => p (l.getD j d)) n i) = (l.drop i).any p
  | 0, i, h => by rw [List.drop_eq_nil_of_le (by omega)]; rfl
  | n + 1, i, h => by
    rw [dropI d (by omega), List.any_cons, idxF]
    cases hp : p (l.getD i d) with
    | true => simp
    | false =>
      simp only [Bool.false_eq_true, if_false, Bool.false_or]
      exact idxF_any p d l n (i + 1) (by omega)
theorem wnat {i : Nat} (h : i < 9223372036854775807) : w64 ((i : Int) + 1) = ((i + 1 : Nat) : Int) := by rw [w64_id (by omega) (by omega)]; omega
/-- images. -/
def imgs (im : List (List Int)) : Bool := im.all (fun r => decide (r.length ≤ 12)) && decide (im.length ≤ 12)
theorem at30 {im : List (List Int)} (hl : im.length ≤ 9223372036854775807) : ∀ (n i : Nat), im.length = i + n → AtV vt1 30 0 (tblL [(0, LL im), (3, .int (i : Int))]) [] (.bool ((im.drop i).all (fun r => decide (r.length ≤ 12)) && decide (im.length ≤ 12)))
  | 0, i, h => AtV.by (fun ih => e30_0 ih _ _) (EvR.no (decide_eq_false (by simp; omega)) (EvR.ret' (by
      rw [List.drop_eq_nil_of_le (by omega), List.all_nil, Bool.true_and]; congr 1; exact decide_eq_decide.2 (by rw [List.length_map]; omega))))
  | n + 1, i, h => by
    refine AtV.by (fun ih => e30_0 ih _ _) (EvR.yes (decide_eq_true (by simp; omega)) (EvR.yes (okR_LL (by omega) (by omega)) ?_))
    rw [Int.toNat_natCast, getD_LL (by omega), dropI [] (by omega), List.all_cons, wnat (by omega)]
    simp only [asR_list, List.length_map]
    by_cases h1 : (im.getD i []).length ≤ 12
    · refine EvR.no (decide_eq_false (by omega)) ?_
      rw [decide_eq_true h1, Bool.true_and]
      exact at30 hl n (i + 1) (by omega)
    · refine EvR.yes (decide_eq_true (by omega)) (EvR.ret' ?_)
      rw [decide_eq_false h1]; simp
theorem c30 {im : List (List Int)} (hl : im.length ≤ 9223372036854775807) : CallV vt1 30 [LL im] (.bool (imgs im)) :=
  CallV.by (fun ih => e30 ih _) (at30 hl im.length 0 (by omega))
theorem imgs_rows {im : List (List Int)} (h : imgs im = true) : im.length ≤ 12 ∧ ∀ i, i < im.length → (im.getD i []).length ≤ 12 := by
  unfold imgs at h
  simp only [Bool.and_eq_true, List.all_eq_true, decide_eq_true_eq] at h
  refine ⟨h.2, fun i hi => h.1 _ ?_⟩
  rw [List.getD_eq_getElem?_getD, List.getElem?_eq_getElem hi]
  exact List.getElem_mem hi
/-- CopyLists. -/
theorem at32 {im : List (List Int)} (h12 : im.length ≤ 12) (hr : ∀ i, i < im.length → (im.getD i []).length ≤ 12) : ∀ (n i : Nat), im.length = i + n → AtV vt1 32 0 (tblL [(0, LL im), (3, .own 0), (4, .int (i : Int))]) [.row true 1 ((im.take i).map L)] (LLf im)
  | 0, i, h => AtV.by (fun ih => e32_0_1 ih _ _ _) (EvR.no (decide_eq_false (by simp; omega)) (EvR.ret' (by rw [List.take_of_length_le (by omega)])))
  | n + 1, i, h => by
    refine AtV.by (fun ih => e32_0_1 ih _ _ _) (EvR.yes (decide_eq_true (by simp; omega)) (EvR.yes (okR_LL (by omega) (by omega)) ?_))
    rw [Int.toNat_natCast, getD_LL (by omega), wnat (by omega)]
    have := hr i (by omega)
    refine EvR.call (c17 (a := im.getD i []) (by omega)) (EvR.yes (isRes_L _) (EvR.yes (by unfold lenOk; simp; omega) ?_))
    have e : (im.take i).map L ++ [DV.list false false 1 (asR (L (im.getD i [])))] = (im.take (i + 1)).map L := by
      rw [List.take_add_one, List.map_append, List.getElem?_eq_getElem (by omega), List.getD_eq_getElem?_getD, List.getElem?_eq_getElem (by omega)]; rfl
    rw [e]
    exact at32 h12 hr n (i + 1) (by omega)
theorem c32 {im : List (List Int)} (h12 : im.length ≤ 12) (hr : ∀ i, i < im.length → (im.getD i []).length ≤ 12) : CallV vt1 32 [LL im] (LLf im) := by
  refine CallV.by (fun ih => e32 ih _) ?_
  by_cases h0 : im.length = 0
  · have : im = [] := List.eq_nil_of_length_eq_zero h0
    subst this
    exact AtV.by (fun ih => e32_0 ih _ _) (EvR.no (by rfl) (EvR.ret' rfl))
  · refine AtV.by (fun ih => e32_0 ih _ _) (EvR.yes (decide_eq_true (by simp; omega)) (EvR.yes (okR_LL (by omega) (by omega)) ?_))
    have hz := getD_LL (im := im) (i := 0) (by omega)
    rw [show (0 : Int).toNat = 0 from rfl, hz]
    have := hr 0 (by omega)
    refine EvR.call (c17 (a := im.getD 0 []) (by omega)) (EvR.yes (isRes_L _) ?_)
    have e : [DV.list false false 1 (asR (L (im.getD 0 [])))] = (im.take 1).map L := by
      rw [List.take_add_one, List.map_append, List.getElem?_eq_getElem (by omega), List.getD_eq_getElem?_getD, List.getElem?_eq_getElem (by omega)]; rfl
    rw [e]
    exact at32 h12 hr (im.length - 1) 1 (by omega)
/-- samplesOf. -/
def wide (im : List (List Int)) : Nat := (im.getD 0 []).length
theorem wide_nil : wide [] = 0 := rfl
theorem c86 (im : List (List Int)) : CallV vt1 86 [LL im] (.int (wide im)) := by
  refine CallV.by (fun ih => e86 ih _) ?_
  by_cases h0 : im.length = 0
  · have : im = [] := List.eq_nil_of_length_eq_zero h0
    subst this
    exact EvR.yes (by rfl) (EvR.ret' rfl)
  · refine EvR.no (decide_eq_false (by rw [List.length_map]; omega)) (EvR.yes (okR_LL (by omega) (by omega)) (EvR.ret' ?_))
    show DV.int ((asR ((im.map L).getD 0 DV.undef)).length : Int) = _
    rw [getD_LL (by omega), asR_list, List.length_map]; rfl
theorem c122 (r : List Int) (x : Int) : CallV vt1 122 [LT r, .fbp true [.int x] 0] (.bool (!decide ((r.length : Int) = x))) :=
  CallV.by (fun ih => e122 ih _ _) (EvR.ret' (by rw [List.length_map]))
theorem at150 {im : List (List Int)} (h12 : im.length ≤ 12) (x : Int) : ∀ (n i : Nat), im.length = i + n → AtV vt1 150 0 (tblL [(0, LL im), (1, .func 122 [] [.fbp true [.int x] 0]), (7, .int (im.length : Int)), (8, .int (i : Int))]) [] (.int (idxF (fun j => !decide (((im.getD j []).length : Int) = x)) n i))
  | 0, i, h => AtV.by (fun ih => e150_0 ih _ _ _ _) (EvR.no (decide_eq_false (by omega)) EvR.ret)
  | n + 1, i, h => by
    refine AtV.by (fun ih => e150_0 ih _ _ _ _) (EvR.yes (decide_eq_true (by omega)) (EvR.yes (okR_LL (by omega) (by omega)) ?_))
    rw [Int.toNat_natCast, getD_LL (by omega), wnat (by omega), idxF]
    refine EvR.call (c122 _ _) (EvR.yes (isRes_bool _) ?_)
    cases hp : !decide (((im.getD i []).length : Int) = x) with
    | true => exact EvR.yes rfl EvR.ret
    | false => exact EvR.no rfl (at150 h12 x n (i + 1) (by omega))
theorem c121 {im : List (List Int)} (h12 : im.length ≤ 12) (x : Int) : CallV vt1 121 [LL im, .func 122 [] [.fbp true [.int x] 0]] (.bool (im.any (fun r => !decide ((r.length : Int) = x)))) := by
  have k : CallV vt1 150 [LL im, .func 122 [] [.fbp true [.int x] 0]] (.int (idxF (fun j => !decide (((im.getD j []).length : Int) = x)) im.length 0)) := by
    refine CallV.by (fun ih => e150 ih _ _) ?_
    rw [List.length_map]
    exact at150 h12 x im.length 0 (by omega)
  refine CallV.by (fun ih => e121 ih _ _) (EvR.call k (EvR.yes (isRes_int _) (EvR.ret' ?_)))
  have := idxF_any (fun r : List Int => !decide ((r.length : Int) = x)) [] im im.length 0 (by omega)
  rw [asI_int, this]; rfl
def oddP (n : Int) : Bool := !decide (0 ≤ n ∧ n ≤ 255)
def litP (n : Int) : Bool := !decide (n = 0)
theorem c123 (n : Int) : CallV vt1 123 [.int n] (.bool (oddP n)) :=
  CallV.by (fun ih => e123 ih _) (EvR.call (c114 _ _ _) (EvR.yes (isRes_bool _) (EvR.ret' rfl)))
theorem c124 (n : Int) : CallV vt1 124 [.int n] (.bool (litP n)) := CallV.by (fun ih => e124 ih _) EvR.ret
theorem at101a {l : List Int} (h12 : l.length ≤ 1000) : ∀ (n i : Nat), l.length = i + n → AtV vt1 101 0 (tblL [(0, LT l), (1, .func 123 [] []), (7, .int (l.length : Int)), (8, .int (i : Int))]) [] (.int (idxF (fun j => oddP (l.getD j 0)) n i))
  | 0, i, h => AtV.by (fun ih => e101_123_0 ih _ _ _) (EvR.no (decide_eq_false (by omega)) EvR.ret)
  | n + 1, i, h => by
    refine AtV.by (fun ih => e101_123_0 ih _ _ _) (EvR.yes (decide_eq_true (by omega)) (EvR.yes (okR_ok (by omega) (by omega)) ?_))
    rw [asI_ints, Int.toNat_natCast, wnat (by omega), idxF]
    refine EvR.call (c123 _) (EvR.yes (isRes_bool _) ?_)
    cases hp : oddP (l.getD i 0) with
    | true => exact EvR.yes rfl EvR.ret
    | false => exact EvR.no rfl (at101a h12 n (i + 1) (by omega))
theorem at101b {l : List Int} (h12 : l.length ≤ 1000) : ∀ (n i : Nat), l.length = i + n → AtV vt1 101 0 (tblL [(0, LT l), (1, .func 124 [] []), (7, .int (l.length : Int)), (8, .int (i : Int))]) [] (.int (idxF (fun j => litP (l.getD j 0)) n i))
  | 0, i, h => AtV.by (fun ih => e101_124_0 ih _ _ _) (EvR.no (decide_eq_false (by omega)) EvR.ret)
  | n + 1, i, h => by
    refine AtV.by (fun ih => e101_124_0 ih _ _ _) (EvR.yes (decide_eq_true (by omega)) (EvR.yes (okR_ok (by omega) (by omega)) ?_))
    rw [asI_ints, Int.toNat_natCast, wnat (by omega), idxF]
    refine EvR.call (c124 _) (EvR.yes (isRes_bool _) ?_)
    cases hp : litP (l.getD i 0) with
    | true => exact EvR.yes rfl EvR.ret
    | false => exact EvR.no rfl (at101b h12 n (i + 1) (by omega))
theorem c56a {l : List Int} (h12 : l.length ≤ 1000) : CallV vt1 56 [LT l, .func 123 [] []] (.bool (l.any oddP)) := by
  have k : CallV vt1 101 [LT l, .func 123 [] []] (.int (idxF (fun j => oddP (l.getD j 0)) l.length 0)) := by
    refine CallV.by (fun ih => e101_123 ih _) ?_
    rw [List.length_map]
    exact at101a h12 l.length 0 (by omega)
  refine CallV.by (fun ih => e56_123 ih _) (EvR.call k (EvR.yes (isRes_int _) (EvR.ret' ?_)))
  have := idxF_any oddP 0 l l.length 0 (by omega)
  rw [asI_int, this]; rfl
theorem c56b {l : List Int} (h12 : l.length ≤ 1000) : CallV vt1 56 [LT l, .func 124 [] []] (.bool (l.any litP)) := by
  have k : CallV vt1 101 [LT l, .func 124 [] []] (.int (idxF (fun j => litP (l.getD j 0)) l.length 0)) := by
    refine CallV.by (fun ih => e101_124 ih _) ?_
    rw [List.length_map]
    exact at101b h12 l.length 0 (by omega)
  refine CallV.by (fun ih => e56_124 ih _) (EvR.call k (EvR.yes (isRes_int _) (EvR.ret' ?_)))
  have := idxF_any litP 0 l l.length 0 (by omega)
  rw [asI_int, this]; rfl
/-- The error of an image, out of what is known of it. -/
def errP (w len : Int) (un odd dark : Bool) : Int := firstNZ [if decide (0 < w) && !un then 0 else 10, if decide (w ≤ 10) && decide (len ≤ 10) then 0 else 8, if odd then 2 else 0, if dark then 11 else 0]
theorem at83 {im : List (List Int)} (h12 : im.length ≤ 12) (hr : ∀ i, i < im.length → (im.getD i []).length ≤ 12) (w : Int) (un : Bool) : ∀ (n i : Nat) (odd dark : Bool), im.length = i + n →
    AtV vt1 83 0 (tblL [(0, LL im), (3, .ptr 0 0), (4, .bool un), (5, .bool odd), (6, .bool dark), (14, LL im), (15, .int (im.length : Int)), (16, .int (i : Int))]) [.box [.int w]] (.int (errP w im.length un (odd || (im.drop i).any (·.any oddP)) (dark && (im.drop i).all (fun r => !(r.any litP)))))
  | 0, i, odd, dark, h => by
    refine AtV.by (fun ih => e83_0 ih _ _ _ _ _ _ _ _) (EvR.no (decide_eq_false (by omega)) ?_)
    rw [List.drop_eq_nil_of_le (by omega)]
    simp only [List.any_nil, List.all_nil, Bool.or_false, Bool.and_true, List.length_map]
    refine EvR.cond (fun h1 => ?_) (fun h1 => ?_)
    all_goals
      refine EvR.call (c88 _ _) (EvR.yes (isRes_int _) (EvR.cond (fun h2 => ?_) (fun h2 => ?_)))
      all_goals
        refine EvR.call (c88 _ _) (EvR.yes (isRes_int _) (EvR.call (c88 _ _) (EvR.yes (isRes_int _) (EvR.call (c88 _ _) (EvR.yes (isRes_int _) ?_)))))
        simp only [asI_int]
        refine EvR.call (c87 (l := [_, _, _, _]) (by simp)) (EvR.yes (isRes_int _) (EvR.ret' ?_))
        simp only [asI_int, errP, h1, h2]
        cases un <;> cases odd <;> cases dark <;> simp
  | n + 1, i, odd, dark, h => by
    have hri := hr i (by omega)
    refine AtV.by (fun ih => e83_0 ih _ _ _ _ _ _ _ _) (EvR.yes (decide_eq_true (by omega)) (EvR.yes (okR_LL (by omega) (by omega)) ?_))
    rw [Int.toNat_natCast, getD_LL (by omega), wnat (by omega), dropI [] (by omega), List.any_cons, List.all_cons]
    simp only [asR_list]
    have ka := c56a (l := im.getD i []) (by omega)
    have kb := c56b (l := im.getD i []) (by omega)
    cases odd with
    | true =>
      refine EvR.yes rfl ?_
      cases dark with
      | true =>
        refine EvR.yes rfl (EvR.call kb (EvR.yes (isRes_bool _) ?_))
        have := at83 h12 hr w un n (i + 1) true (!((im.getD i []).any litP)) (by omega)
        simp only [Bool.true_or, Bool.true_and, Bool.false_or, Bool.false_and] at this ⊢
        exact this
      | false =>
        refine EvR.no rfl ?_
        have := at83 h12 hr w un n (i + 1) true false (by omega)
        simp only [Bool.true_or, Bool.true_and, Bool.false_or, Bool.false_and] at this ⊢
        exact this
    | false =>
      refine EvR.no rfl (EvR.call ka (EvR.yes (isRes_bool _) ?_))
      cases dark with
      | true =>
        refine EvR.yes rfl (EvR.call kb (EvR.yes (isRes_bool _) ?_))
        have := at83 h12 hr w un n (i + 1) ((im.getD i []).any oddP) (!((im.getD i []).any litP)) (by omega)
        simp only [Bool.true_or, Bool.true_and, Bool.false_or, Bool.false_and] at this ⊢
        exact this
      | false =>
        refine EvR.no rfl ?_
        have := at83 h12 hr w un n (i + 1) ((im.getD i []).any oddP) false (by omega)
        simp only [Bool.true_or, Bool.true_and, Bool.false_or, Bool.false_and] at this ⊢
        exact this
def uneven (im : List (List Int)) : Bool := im.any (fun r => !decide ((r.length : Int) = wide im))
/-- The error of an image. -/
def errI (im : List (List Int)) : Int := errP (wide im) im.length (uneven im) (im.any (·.any oddP)) (im.all (fun r => !(r.any litP)))
theorem c83 {im : List (List Int)} (h12 : im.length ≤ 12) (hr : ∀ i, i < im.length → (im.getD i []).length ≤ 12) : CallV vt1 83 [LL im] (.int (errI im)) := by
  refine CallV.by (fun ih => e83 ih _) (EvR.call (c86 im) (EvR.yes (isRes_int _) (EvR.call (c121 h12 _) (EvR.yes (isRes_bool _) ?_))))
  have := at83 h12 hr (wide im) (uneven im) im.length 0 false true (by omega)
  rw [List.length_map]
  exact this
end Go.Proofs
/- Contracts of SensorImages: the reference's error. -/
namespace Go.Proofs
open Go Go.Sx Go.Vx
set_option maxRecDepth 100000
def resI (odd z : Bool) : Int := if odd then 2 else if z then 11 else 0
section
variable {im : List (List Int)} (h12 : im.length ≤ 12) (hr : ∀ i, i < im.length → (im.getD i []).length ≤ 12)
include h12 hr
theorem at34_2 {i : Nat} (hi : i < im.length) {ro rd : Bool} (hk : ∀ s : Int, 0 ≤ s → s ≤ 3060 * ((i : Int) + 1) → AtV vt1 34 1 (tblL [(0, LL im), (4, .int s), (5, .int ((i + 1 : Nat) : Int))]) [] (.int (resI ro (decide (s = 0) && rd)))) :
    ∀ (n j : Nat) (s : Int), (im.getD i []).length = j + n → 0 ≤ s → s ≤ 3060 * (i : Int) + 255 * (j : Int) →
      AtV vt1 34 2 (tblL [(0, LL im), (4, .int s), (5, .int (i : Int)), (6, .int (j : Int))]) [] (.int (resI (((im.getD i []).drop j).any oddP || ro) (decide (s = 0) && (!(((im.getD i []).drop j).any litP) && rd))))
  | 0, j, s, h, h0, h1 => by
    have := hr i hi
    refine AtV.by (fun ih => e34_2 ih _ _ _ _) (EvR.yes (okR_LL (by omega) (by omega)) ?_)
    rw [Int.toNat_natCast, getD_LL hi, asR_list, List.length_map, wnat (i := i) (by omega), List.drop_eq_nil_of_le (by omega)]
    refine EvR.no (decide_eq_false (by omega)) ?_
    have := hk s h0 (by omega)
    simp only [List.any_nil, Bool.false_or, Bool.not_false, Bool.true_and]
    exact this
  | n + 1, j, s, h, h0, h1 => by
    have := hr i hi
    refine AtV.by (fun ih => e34_2 ih _ _ _ _) (EvR.yes (okR_LL (by omega) (by omega)) ?_)
    rw [Int.toNat_natCast, getD_LL hi, asR_list, List.length_map, Int.toNat_natCast, asI_ints, wnat (i := j) (by omega), dropI 0 (by omega), List.any_cons, List.any_cons]
    refine EvR.yes (decide_eq_true (by omega)) (EvR.yes (okR_LL (by omega) (by omega)) (EvR.yes (okR_ok (by omega) (by omega)) (EvR.call (c50 _ _ _) (EvR.yes (isRes_bool _) ?_))))
    rw [asB_bool]
    by_cases hp : 0 ≤ (im.getD i []).getD j 0 ∧ (im.getD i []).getD j 0 ≤ 255
    · have ho : oddP ((im.getD i []).getD j 0) = false := by unfold oddP; rw [decide_eq_true hp]; rfl
      rw [ho, decide_eq_true hp, Bool.false_or]
      refine EvR.no rfl (EvR.yes (okR_LL (by omega) (by omega)) (EvR.yes (okR_ok (by omega) (by omega)) ?_))
      rw [w64_id (by omega) (by omega)]
      have := at34_2 hi hk n (j + 1) (s + (im.getD i []).getD j 0) (by omega) (by omega) (by omega)
      have e : (decide (s + (im.getD i []).getD j 0 = 0) && (!((im.getD i []).drop (j + 1)).any litP && rd)) = (decide (s = 0) && (!(litP ((im.getD i []).getD j 0) || ((im.getD i []).drop (j + 1)).any litP) && rd)) := by
        unfold litP
        by_cases hs : s = 0
        · subst hs
          by_cases hq : (im.getD i []).getD j 0 = 0
          · simp only [hq]; simp
          · rw [decide_eq_false (show ¬ (0 + (im.getD i []).getD j 0 = 0) by omega), decide_eq_false hq]; simp
        · rw [decide_eq_false hs, decide_eq_false (show ¬ (s + (im.getD i []).getD j 0 = 0) by omega)]; simp
      rw [e] at this
      exact this
    · have ho : oddP ((im.getD i []).getD j 0) = true := by unfold oddP; rw [decide_eq_false hp]; rfl
      rw [ho, decide_eq_false hp]
      exact EvR.yes rfl (EvR.ret' (by simp [resI]))
theorem at34_1 : ∀ (n i : Nat) (s : Int), im.length = i + n → 0 ≤ s → s ≤ 3060 * (i : Int) →
    AtV vt1 34 1 (tblL [(0, LL im), (4, .int s), (5, .int (i : Int))]) [] (.int (resI ((im.drop i).any (·.any oddP)) (decide (s = 0) && (im.drop i).all (fun r => !(r.any litP)))))
  | 0, i, s, h, h0, h1 => by
    refine AtV.by (fun ih => e34_1 ih _ _ _) (EvR.no (decide_eq_false (by rw [List.length_map]; omega)) ?_)
    rw [List.drop_eq_nil_of_le (by omega)]
    simp only [List.any_nil, List.all_nil, Bool.and_true, resI]
    refine EvR.cond (fun h => EvR.ret' (by simp [h])) (fun h => EvR.ret' (by simp [h]))
  | n + 1, i, s, h, h0, h1 => by
    refine AtV.by (fun ih => e34_1 ih _ _ _) (EvR.yes (decide_eq_true (by rw [List.length_map]; omega)) ?_)
    rw [dropI [] (by omega), List.any_cons, List.all_cons]
    have := at34_2 h12 hr (i := i) (by omega) (ro := (im.drop (i + 1)).any (·.any oddP)) (rd := (im.drop (i + 1)).all (fun r => !(r.any litP))) (fun s' g0 g1 => at34_1 n (i + 1) s' (by omega) g0 (by omega)) (im.getD i []).length 0 s (by omega) h0 (by omega)
    rw [List.drop_zero] at this
    exact this
omit h12 in
theorem at34_0 (hw : 0 < im.length) (hw2 : wide im ≠ 0) (h12 : im.length ≤ 12) : ∀ (n i : Nat), im.length = i + n →
    AtV vt1 34 0 (tblL [(0, LL im), (3, .int (i : Int))]) [] (.int (if (im.drop i).any (fun r => !decide ((r.length : Int) = wide im)) then 10 else if 10 < im.length then 8 else if 10 < wide im then 8 else resI (im.any (·.any oddP)) (im.all (fun r => !(r.any litP)))))
  | 0, i, h => by
    refine AtV.by (fun ih => e34_0 ih _ _) (EvR.no (decide_eq_false (by rw [List.length_map]; omega)) ?_)
    rw [List.drop_eq_nil_of_le (by omega), List.any_nil, List.length_map]
    simp only [Bool.false_eq_true, if_false]
    by_cases g1 : 10 < im.length
    · rw [if_pos g1]; exact EvR.yes (decide_eq_true (by omega)) EvR.ret
    · rw [if_neg g1]
      refine EvR.no (decide_eq_false (by omega)) (EvR.yes (okR_LL (by omega) (by omega)) ?_)
      rw [getD_LL hw, asR_list, List.length_map]
      by_cases g2 : 10 < wide im
      · rw [if_pos g2]; exact EvR.yes (decide_eq_true (by unfold wide at g2; omega)) EvR.ret
      · rw [if_neg g2]
        refine EvR.no (decide_eq_false (by unfold wide at g2; omega)) ?_
        have := at34_1 h12 hr im.length 0 0 (by omega) (by omega) (by omega)
        rw [List.drop_zero] at this
        exact this
  | n + 1, i, h => by
    refine AtV.by (fun ih => e34_0 ih _ _) (EvR.yes (decide_eq_true (by rw [List.length_map]; omega)) (EvR.yes (okR_LL (by omega) (by omega)) (EvR.yes (okR_LL (by omega) (by omega)) ?_)))
    rw [Int.toNat_natCast, getD_LL (i := i) (by omega), getD_LL hw, asR_list, asR_list, List.length_map, List.length_map, wnat (by omega), dropI [] (by omega), List.any_cons]
    by_cases g : ((im.getD i []).length : Int) = wide im
    · have g' : ((im.getD i []).length : Int) = (im.getD 0 []).length := g
      rw [decide_eq_true g, decide_eq_true g']
      exact EvR.no rfl (at34_0 hw hw2 h12 n (i + 1) (by omega))
    · have g' : ¬ ((im.getD i []).length : Int) = (im.getD 0 []).length := g
      rw [decide_eq_false g, decide_eq_false g']
      exact EvR.yes rfl (EvR.ret' (by simp))
/-- The reference's ImageErr. -/
theorem c34 : CallV vt1 34 [LL im] (.int (errI im)) := by
  refine CallV.by (fun ih => e34 ih _) ?_
  rw [List.length_map]
  by_cases h0 : im.length = 0
  · have : im = [] := List.eq_nil_of_length_eq_zero h0
    subst this
    exact EvR.yes rfl (EvR.ret' rfl)
  · refine EvR.no (decide_eq_false (by omega)) (EvR.yes (okR_LL (by omega) (by omega)) ?_)
    rw [getD_LL (by omega), asR_list, List.length_map]
    by_cases hw : wide im = 0
    · have hw' : (im.getD 0 []).length = 0 := hw
      refine EvR.yes (decide_eq_true (by omega)) (EvR.ret' ?_)
      unfold errI errP
      rw [hw]; simp [firstNZ]
    · have hw' : ¬ (im.getD 0 []).length = 0 := hw
      refine EvR.no (decide_eq_false (by omega)) ?_
      have k := at34_0 hr (by omega) hw h12 im.length 0 (by omega)
      rw [List.drop_zero] at k
      have e : errI im = (if im.any (fun r => !decide ((r.length : Int) = wide im)) then 10 else if 10 < im.length then 8 else if 10 < wide im then 8 else resI (im.any (·.any oddP)) (im.all (fun r => !(r.any litP)))) := by
        unfold errI errP uneven resI
        have w1 : (decide ((0 : Int) < (wide im : Int))) = true := decide_eq_true (by omega)
        rw [w1]
        generalize im.any (fun r => !decide ((r.length : Int) = wide im)) = A
        generalize im.any (·.any oddP) = B
        generalize im.all (fun r => !(r.any litP)) = C
        by_cases g1 : 10 < im.length <;> by_cases g2 : 10 < wide im
        all_goals
          have w2 : decide ((wide im : Int) ≤ 10) = decide (¬ 10 < wide im) := decide_eq_decide.2 (by omega)
          have w3 : decide ((im.length : Int) ≤ 10) = decide (¬ 10 < im.length) := decide_eq_decide.2 (by omega)
          rw [w2, w3]
          cases A <;> cases B <;> cases C <;> simp [firstNZ, g1, g2]
      rw [e]
      exact k
end
end Go.Proofs
/- Contracts of ModalFrames: WideInt, RatioFrac. -/
namespace Go.Proofs
open Go Go.Sx Go.Vx
set_option maxRecDepth 100000
theorem val_drop_le {l : List Int} (h : Dg l) : ∀ k, val (l.drop k) ≤ val l
  | 0 => by rw [List.drop_zero]; exact Int.le_refl _
  | k + 1 => by
    have := val_drop_le h k
    rw [val_drop l k] at this
    have g := getD_Dg h k
    have v := val_nonneg (Dg_drop h (k + 1))
    omega
theorem at99 {l : List Int} (hl : Dg l) (hv : val l < 9000000000000000000) (hn : l.length ≤ 1000) {s : Int} : ∀ k : Nat, k ≤ l.length → AtV vt1 99 0 (tblL [(1, .ptr 0 0), (4, .int (val (l.drop k))), (5, .int ((k : Int) - 1))]) [.box [.int s, L l]] (.tup [.int (w64 (s * val l)), .bool true])
  | 0, _ => AtV.by (fun ih => e99_0 ih _ _ _ _) (EvR.no (by simp) (EvR.ret' (by rw [List.drop_zero])))
  | k + 1, hk => by
    have e1 : (((k + 1 : Nat) : Int) - 1) = (k : Int) := by omega
    have g := getD_Dg hl k
    have v := val_nonneg (Dg_drop hl (k + 1))
    have b := val_drop_le hl k
    have d := val_drop l k
    rw [e1]
    refine AtV.by (fun ih => e99_0 ih _ _ _ _) (EvR.yes (by simp) (EvR.yes (okR_ok (by omega) (by omega)) ?_))
    rw [asI_ints, Int.toNat_natCast, w64_id (n := _ * 1000000000) (by omega) (by omega), w64_id (by omega) (by omega), w64_id (by omega) (by omega)]
    have e2 : val (l.drop (k + 1)) * 1000000000 + l.getD k 0 = val (l.drop k) := by omega
    rw [e2]
    exact at99 hl hv hn k (by omega)
/-- WideInt. -/
theorem c99 {n : Int} (hd : dl n ≤ 1000) : CallV vt1 99 [W n] (.tup (if n.natAbs < 9000000000000000000 then [.int n, .bool true] else [.int 0, .bool false])) := by
  have hl : (digits n.natAbs).length = dl n := rfl
  have hD := Dg_digits n.natAbs
  have hT := Top_digits n.natAbs
  have hv := val_dig n
  have hlt := lt_dl n
  refine CallV.by (fun ih => e99 ih _ _) ?_
  simp only [List.length_map]
  have fin : n.natAbs < 9000000000000000000 → AtV vt1 99 0 (tblL [(1, .ptr 0 0), (4, .int 0), (5, .int (w64 (((digits n.natAbs).length : Int) - 1)))]) [.box [.int n.sign, L (digits n.natAbs)]] (.tup [.int n, .bool true]) := by
    intro h
    have := at99 hD (by omega) (by omega) (s := n.sign) (digits n.natAbs).length (Nat.le_refl _)
    rw [List.drop_length, hv, Int.sign_mul_natAbs] at this
    rw [w64_id (n := n) (by omega) (by omega)] at this
    rw [w64_id (by omega) (by omega)]
    exact this
  by_cases h3 : 3 < (digits n.natAbs).length
  · have hge := val_ge hD hT (by intro e; rw [e] at h3; simp at h3)
    have hp := pow_mono (i := 3) (j := (digits n.natAbs).length - 1) (by omega)
    rw [if_neg (by omega)]
    exact EvR.yes (decide_eq_true (by omega)) EvR.ret
  · refine EvR.no (decide_eq_false (by omega)) ?_
    by_cases h4 : (digits n.natAbs).length = 3
    · have hval : (n.natAbs : Int) = (digits n.natAbs).getD 0 0 + 1000000000 * ((digits n.natAbs).getD 1 0 + 1000000000 * (digits n.natAbs).getD 2 0) := by
        rw [← hv]
        generalize digits n.natAbs = l at h4 ⊢
        match l, h4 with
        | [x, y, z], _ => simp [val]
      have g0 := getD_Dg hD 0
      have g1 := getD_Dg hD 1
      have g2 := getD_Dg hD 2
      refine EvR.yes (decide_eq_true (by omega)) (EvR.yes (okR_ok (by omega) (by omega)) ?_)
      have e := asI_ints (digits n.natAbs) 2
      refine EvR.cond (fun g => ?_) (fun g => ?_)
      · have g' := of_decide_eq_true g
        rw [e] at g'
        rw [if_neg (by omega)]
        exact EvR.ret
      · have g' := of_decide_eq_false g
        rw [e] at g'
        rw [if_pos (by omega)]
        exact fin (by omega)
    · have : n.natAbs < 9000000000000000000 := by
        have h2 : dl n ≤ 2 := by omega
        have := npow_mono h2
        omega
      rw [if_pos this]
      exact EvR.no (decide_eq_false (by omega)) (fin this)
theorem c100 (n d : Int) : CallV vt1 100 [.agg [.int n, .int d]] (.bool (decide ((-1000000000 ≤ n ∧ n ≤ 1000000000) ∧ (1 ≤ d ∧ d ≤ 1000000000)))) := by
  refine CallV.by (fun ih => e100 ih _ _) (EvR.call (c50 _ _ _) (EvR.yes (isRes_bool _) ?_))
  by_cases h : -1000000000 ≤ n ∧ n ≤ 1000000000
  · refine EvR.yes (by rw [asB_bool]; exact decide_eq_true h) (EvR.call (c50 _ _ _) (EvR.yes (isRes_bool _) (EvR.ret' ?_)))
    rw [asB_bool]
    congr 1
    apply decide_eq_decide.2
    omega
  · refine EvR.no (by rw [asB_bool]; exact decide_eq_false h) (EvR.ret' ?_)
    congr 1
    exact (decide_eq_false (fun e => h e.1)).symm
end Go.Proofs
/- Contracts of ModalFrames: RatioFrac, sums. -/
namespace Go.Proofs
open Go Go.Sx Go.Vx
set_option maxRecDepth 100000
/-- RatioFrac of a ratio of small parts. -/
theorem c55 {q : Rat} (h1 : q.num.natAbs ≤ 1000000000) (h2 : q.den ≤ 1000000000) : CallV vt1 55 [RW q] (.tup [FR q, .bool true]) := by
  have d1 : dl q.num ≤ 3 := dl_small (by omega) (by omega)
  have d2 : dl (q.den : Int) ≤ 3 := dl_small (by omega) (by omega)
  have n1 := c99 (n := q.num) (by omega)
  have n2 := c99 (n := (q.den : Int)) (by omega)
  rw [if_pos (by omega)] at n1
  rw [if_pos (by omega)] at n2
  have hd := q.den_nz
  refine CallV.by (fun ih => e55 ih _ _ _ _) (EvR.call n1 (EvR.yes rfl (EvR.call n2 (EvR.yes rfl (EvR.no rfl (EvR.no rfl (EvR.call (c100 _ _) (EvR.yes (isRes_bool _) (EvR.no ?_ (EvR.ret' rfl))))))))))
  simp only [asB_bool, tupL_tup, List.getD_cons_zero, asI_int]
  rw [decide_eq_true (by omega)]
  rfl
theorem divInt_le {x y : Int} (hy : 0 < y) : (Rat.divInt x y).num.natAbs ≤ x.natAbs ∧ (Rat.divInt x y).den ≤ y.natAbs := by
  obtain ⟨e1, e2⟩ := divInt_parts (x := x) hy
  have d1 : (Int.gcd x y : Int) ∣ x := Int.gcd_dvd_left x y
  have d2 : (Int.gcd x y : Int) ∣ y := Int.gcd_dvd_right x y
  have hg : 0 < (Int.gcd x y : Int) := by have := Int.gcd_pos_of_ne_zero_right x (b := y) (by omega); omega
  have b1 : (x / (Int.gcd x y : Int)).natAbs ≤ x.natAbs := by
    obtain ⟨k, hk⟩ := d1
    generalize (Int.gcd x y : Int) = g at *
    subst hk
    rw [Int.mul_ediv_cancel_left _ (by omega), Int.natAbs_mul]
    exact Nat.le_mul_of_pos_left _ (by omega)
  have b2 : (y / (Int.gcd x y : Int)).natAbs ≤ y.natAbs := by
    obtain ⟨k, hk⟩ := d2
    generalize (Int.gcd x y : Int) = g at *
    subst hk
    rw [Int.mul_ediv_cancel_left _ (by omega), Int.natAbs_mul]
    exact Nat.le_mul_of_pos_left _ (by omega)
  rw [e1]
  exact ⟨b1, by omega⟩
theorem add_divInt (q : Rat) {o m : Int} (hm : m ≠ 0) : q + Rat.divInt o m = Rat.divInt (q.num * m + o * q.den) (q.den * m) := by
  rw [← Rat.divInt_add_divInt _ _ (den_ne q) hm, Rat.num_divInt_den]
/-- The size of a running sum. -/
def Bd (i : Nat) (q : Rat) : Prop := q.den ≤ 10 ^ i ∧ q.num.natAbs ≤ 4 * i * 10 ^ i
theorem Bd_step {i : Nat} {q : Rat} (h : Bd i q) {o m : Int} (hm : 1 ≤ m ∧ m ≤ 10) (ho : 0 ≤ o ∧ o ≤ 40) : Bd (i + 1) (q + Rat.divInt o m) := by
  have hd := q.den_nz
  have hdm : 0 < (q.den : Int) * m := Int.mul_pos (by omega) (by omega)
  rw [add_divInt q (by omega)]
  obtain ⟨b1, b2⟩ := divInt_le (x := q.num * m + o * q.den) hdm
  obtain ⟨h1, h2⟩ := h
  have t1 : ((q.den : Int) * m).natAbs ≤ 10 ^ i * 10 := by
    rw [Int.natAbs_mul]
    exact Nat.mul_le_mul (by omega) (by omega)
  have t2 : (q.num * m).natAbs ≤ 4 * i * 10 ^ i * 10 := by
    rw [Int.natAbs_mul]
    exact Nat.mul_le_mul h2 (by omega)
  have t3 : (o * (q.den : Int)).natAbs ≤ 40 * 10 ^ i := by
    rw [Int.natAbs_mul]
    exact Nat.mul_le_mul (by omega) (by omega)
  refine ⟨by rw [Nat.pow_succ]; omega, ?_⟩
  have t4 := Int.natAbs_add_le (q.num * m) (o * q.den)
  have e : 4 * (i + 1) * 10 ^ (i + 1) = 4 * i * 10 ^ i * 10 + 40 * 10 ^ i := by
    rw [Nat.pow_succ]
    generalize 10 ^ i = p
    grind
  omega
end Go.Proofs
/- Contracts of ModalFrames: sums. -/
namespace Go.Proofs
open Go Go.Sx Go.Vx
set_option maxRecDepth 100000
def sumR (a b : List Int) : Nat → Nat → Rat → Rat
  | 0, _, q => q
  | n + 1, i, q => sumR a b n (i + 1) (q + Rat.divInt (own b i) (a.getD i 0))
theorem own_bd {a b : List Int} (hab : b.length = a.length) (hb : ∀ j, j < a.length → (1 ≤ a.getD j 0 ∧ a.getD j 0 ≤ 10) ∧ (1 ≤ b.getD j 0 ∧ b.getD j 0 ≤ 20)) {i : Nat} (hi : i < a.length) : 0 ≤ own b i ∧ own b i ≤ 40 := by
  unfold own
  have h1 := (hb i hi).2
  split
  · have h2 := (hb (i + 1) (by omega)).2
    rw [w64_id (by omega) (by omega)]; omega
  · omega
theorem Bd_num {i : Nat} {q : Rat} (h : Bd i q) (hi : i ≤ 4) : q.den ≤ 10000 ∧ q.num.natAbs ≤ 160000 := by
  obtain ⟨h1, h2⟩ := h
  have : i = 0 ∨ i = 1 ∨ i = 2 ∨ i = 3 ∨ i = 4 := by omega
  rcases this with e | e | e | e | e <;> subst e <;> exact ⟨Nat.le_trans h1 (by decide), Nat.le_trans h2 (by decide)⟩
section
variable {a b : List Int} (hab : b.length = a.length) (h4 : a.length ≤ 4) (hb : ∀ j, j < a.length → (1 ≤ a.getD j 0 ∧ a.getD j 0 ≤ 10) ∧ (1 ≤ b.getD j 0 ∧ b.getD j 0 ≤ 20))
include hab h4 hb
omit h4 in
theorem sumR_bd : ∀ (n i : Nat) (q : Rat), a.length = i + n → Bd i q → Bd a.length (sumR a b n i q)
  | 0, i, q, h, hq => by
    have : a.length = i := by omega
    rw [sumR, this]; exact hq
  | n + 1, i, q, h, hq => by
    rw [sumR]
    exact sumR_bd n (i + 1) _ (by omega) (Bd_step hq (hb i (by omega)).1 (own_bd hab hb (by omega)))
theorem at11 {y1 y2 : Int} : ∀ (n i : Nat) (q : Rat), a.length = i + n → Bd i q → AtV vt1 11 0 (tblL [(2, .ptr 0 0), (4, .ptr 1 0), (6, .ptr 2 0), (20, L a), (21, .int (a.length : Int)), (22, .int (i : Int))]) [.box [.int y1, .int y2], .box [L a, L b], .box [.int q.num, .int (q.den : Int)]] (.tup [FR (sumR a b n i q), .int 0])
  | 0, i, q, h, hq => AtV.by (fun ih => e11_0 ih _ _ _ _ _ _ _ _ _) (EvR.no (decide_eq_false (by omega)) (EvR.ret' rfl))
  | n + 1, i, q, h, hq => by
    have hw : w64 ((i : Int) + 1) = ((i + 1 : Nat) : Int) := by rw [w64_id (by omega) (by omega)]; omega
    have c := (c48 (b := b) a (by omega) (i := i)).resolve_right (by omega)
    have hbi := hb i (by omega)
    have ho : w64 (b.getD i 0 + (if i + 1 < b.length then b.getD (i + 1) 0 else 0)) = own b i := by
      unfold own
      split
      · rfl
      · rw [Int.add_zero, w64_id (by omega) (by omega)]
    have hob := own_bd hab hb (i := i) (by omega)
    obtain ⟨m1, m2⟩ := Bd_num hq (by omega)
    have hd := q.den_nz
    refine AtV.by (fun ih => e11_0 ih _ _ _ _ _ _ _ _ _) (EvR.yes (decide_eq_true (by omega)) (EvR.yes (okR_ok (by omega) (by omega)) (EvR.yes (okR_ok (by omega) (by omega)) (EvR.call c (EvR.yes (isRes_int _) ?_)))))
    rw [asI_ints, asI_ints, Int.toNat_natCast, hw, asI_int, ho]
    generalize hA : a.getD i 0 = m at *
    generalize hO : own b i = o at *
    have p1 : (q.num * m).natAbs ≤ 160000 * 10 := by rw [Int.natAbs_mul]; exact Nat.mul_le_mul m2 (by omega)
    have p2 : (o * (q.den : Int)).natAbs ≤ 40 * 10000 := by rw [Int.natAbs_mul]; exact Nat.mul_le_mul (by omega) (by omega)
    have p3 : ((q.den : Int) * m).natAbs ≤ 10000 * 10 := by rw [Int.natAbs_mul]; exact Nat.mul_le_mul (by omega) (by omega)
    have p4 : 0 < (q.den : Int) * m := Int.mul_pos (by omega) (by omega)
    have p5 := Int.natAbs_add_le (q.num * m) (o * q.den)
    rw [w64_id (n := q.num * m) (by omega) (by omega), w64_id (n := o * (q.den : Int)) (by omega) (by omega), w64_id (n := q.num * m + o * q.den) (by omega) (by omega), w64_id (n := (q.den : Int) * m) (by omega) (by omega)]
    refine EvR.call (c49 (x := q.num * m + o * q.den) (y := q.den * m) (by omega) (by omega)) (EvR.yes rfl ?_)
    have hst := Bd_step hq hbi.1 hob
    have := at11 (y1 := y1) (y2 := y2) n (i + 1) _ (by omega) hst
    rw [sumR, hA, hO]
    rw [add_divInt q (by omega)] at this ⊢
    exact this
theorem at15 {y1 y2 : Int} : ∀ (n i : Nat) (q : Rat), a.length = i + n → Bd i q → AtV vt1 15 0 (tblL [(1, .ptr 0 0), (2, .ptr 1 0), (3, .ptr 2 0), (4, .int (i : Int))]) [.box [LT a, LT b], .box [.int y1, .int y2], .box [.int q.num.sign, L (digits q.num.natAbs), .int (q.den : Int).sign, L (digits (q.den : Int).natAbs)]] (FR (sumR a b n i q))
  | 0, i, q, h, hq => by
    obtain ⟨m1, m2⟩ := Bd_num hq (by omega)
    refine AtV.by (fun ih => e15_0 ih _ _ _ _ _ _ _ _ _) (EvR.no (decide_eq_false (by simp; omega)) (EvR.call (c55 (q := q) (by omega) (by omega)) (EvR.yes rfl (EvR.ret' rfl))))
  | n + 1, i, q, h, hq => by
    have hw : w64 ((i : Int) + 1) = ((i + 1 : Nat) : Int) := by rw [w64_id (by omega) (by omega)]; omega
    have hbi := hb i (by omega)
    have hob := own_bd hab hb (i := i) (by omega)
    obtain ⟨m1, m2⟩ := Bd_num hq (by omega)
    have hst := Bd_step hq hbi.1 hob
    refine AtV.by (fun ih => e15_0 ih _ _ _ _ _ _ _ _ _) (EvR.yes (decide_eq_true (by simp; omega)) (EvR.call (c51 a (by omega) (by omega)) (EvR.yes (isRes_int _) (EvR.yes (okR_ok (by omega) (by omega)) ?_))))
    rw [asI_ints, Int.toNat_natCast, hw, asI_int]
    have hdl := divInt_le (x := own b i) (y := a.getD i 0) (by omega)
    have r1 : rl q ≤ 100000 := by
      have := dl_small (n := q.num) (by omega) (by omega)
      have := dl_small (n := (q.den : Int)) (by omega) (by omega)
      unfold rl; omega
    have r2 : rl (Rat.divInt (own b i) (a.getD i 0)) ≤ 100000 := by
      have := dl_small (n := (Rat.divInt (own b i) (a.getD i 0)).num) (by omega) (by omega)
      have := dl_small (n := ((Rat.divInt (own b i) (a.getD i 0)).den : Int)) (by omega) (by omega)
      unfold rl; omega
    refine EvR.call (c54 (by omega) (by omega) (by omega) (by omega) (by omega)) (EvR.yes (isRes_RW _) (EvR.call (c53 (a := q) r1 r2) (EvR.yes (isRes_RW _) ?_)))
    rw [sumR]
    exact at15 (y1 := y1) (y2 := y2) n (i + 1) _ (by omega) hst
end
end Go.Proofs
/- Contracts of SensorImages: weights, centers. -/
namespace Go.Proofs
open Go Go.Sx Go.Vx
set_option maxRecDepth 100000
section
variable {im : List (List Int)} (h12 : im.length ≤ 12) (hr : ∀ i, i < im.length → (im.getD i []).length ≤ 12)
include h12 hr
omit h12 in
theorem at84_1 {x7 x8 x9 : Int} {v : DV} {i : Nat} (hi : i < im.length) (i12 : i ≤ 12) {s' : S3} (hk : AtV vt1 84 0 (tblL [(2, .ptr 0 0), (3, .ptr 1 0), (8, LL im), (9, .int (im.length : Int)), (10, .int ((i + 1 : Nat) : Int))]) [.box [.int x7, .int x8, .int x9], .box [.int s'.1, .int s'.2.1, .int s'.2.2]] v) :
    ∀ (n j : Nat) (s : S3), (im.getD i []).length = j + n → wr1 i (im.getD i []) n j s = s' →
      AtV vt1 84 1 (tblL [(2, .ptr 0 0), (3, .ptr 1 0), (4, .int (i : Int)), (8, LL im), (9, .int (im.length : Int)), (10, .int (i : Int)), (15, L (im.getD i [])), (16, .int ((im.getD i []).length : Int)), (17, .int (j : Int))]) [.box [.int x7, .int x8, .int x9], .box [.int s.1, .int s.2.1, .int s.2.2]] v
  | 0, j, s, h, hs => by
    rw [wr1] at hs; subst hs
    refine AtV.by (fun ih => e84_1 ih _ _ _ _ _ _ _ _ _ _ _ _ _) (EvR.no (decide_eq_false (by omega)) ?_)
    rw [wnat (by omega)]
    exact hk
  | n + 1, j, s, h, hs => by
    have := hr i hi
    refine AtV.by (fun ih => e84_1 ih _ _ _ _ _ _ _ _ _ _ _ _ _) (EvR.yes (decide_eq_true (by omega)) (EvR.yes (okR_ok (by omega) (by omega)) ?_))
    rw [asI_ints, Int.toNat_natCast, wnat (i := j) (by omega)]
    rw [wr1] at hs
    exact at84_1 hi i12 hk n (j + 1) _ (by omega) hs
theorem at84 {x7 x8 x9 : Int} : ∀ (n i : Nat) (s : S3), im.length = i + n →
    AtV vt1 84 0 (tblL [(2, .ptr 0 0), (3, .ptr 1 0), (8, LL im), (9, .int (im.length : Int)), (10, .int (i : Int))]) [.box [.int x7, .int x8, .int x9], .box [.int s.1, .int s.2.1, .int s.2.2]] (.agg [.int (wim im n i s).1, .int (wim im n i s).2.1, .int (wim im n i s).2.2])
  | 0, i, s, h => AtV.by (fun ih => e84_0 ih _ _ _ _ _ _ _ _ _) (EvR.no (decide_eq_false (by omega)) EvR.ret)
  | n + 1, i, s, h => by
    refine AtV.by (fun ih => e84_0 ih _ _ _ _ _ _ _ _ _) (EvR.yes (decide_eq_true (by omega)) (EvR.yes (okR_LL (by omega) (by omega)) ?_))
    rw [Int.toNat_natCast, getD_LL (by omega), asR_list, List.length_map, wim]
    exact at84_1 hr (i := i) (by omega) (by omega) (at84 n (i + 1) _ (by omega)) (im.getD i []).length 0 s (by omega) rfl
/-- weigh. -/
theorem c84 : CallV vt1 84 [LL im] (.agg [.int (wim im im.length 0 (0, 0, 0)).1, .int (wim im im.length 0 (0, 0, 0)).2.1, .int (wim im im.length 0 (0, 0, 0)).2.2]) := by
  refine CallV.by (fun ih => e84 ih _) ?_
  rw [List.length_map]
  exact at84 h12 hr im.length 0 (0, 0, 0) (by omega)
omit h12 in
theorem at36_1 {x6 x7 x8 x9 : Int} {v : DV} {i : Nat} (hi : i < im.length) (i12 : i ≤ 12) {s' : S3} (hk : AtV vt1 36 0 (tblL [(0, LL im), (2, .ptr 0 0), (3, .int s'.1), (4, .int s'.2.1), (5, .int s'.2.2), (6, .int ((i + 1 : Nat) : Int))]) [.box [.int x6, .nils, .int x7, .nils, .int x8, .nils, .int x9, .nils]] v) :
    ∀ (n j : Nat) (s : S3), (im.getD i []).length = j + n → wr1 i (im.getD i []) n j s = s' →
      AtV vt1 36 1 (tblL [(0, LL im), (2, .ptr 0 0), (3, .int s.1), (4, .int s.2.1), (5, .int s.2.2), (6, .int (i : Int)), (7, .int (j : Int))]) [.box [.int x6, .nils, .int x7, .nils, .int x8, .nils, .int x9, .nils]] v
  | 0, j, s, h, hs => by
    rw [wr1] at hs; subst hs
    refine AtV.by (fun ih => e36_1 ih _ _ _ _ _ _ _ _ _ _) (EvR.yes (okR_LL (by omega) (by omega)) ?_)
    rw [Int.toNat_natCast, getD_LL hi, asR_list, List.length_map, wnat (i := i) (by omega)]
    exact EvR.no (decide_eq_false (by omega)) hk
  | n + 1, j, s, h, hs => by
    have := hr i hi
    refine AtV.by (fun ih => e36_1 ih _ _ _ _ _ _ _ _ _ _) (EvR.yes (okR_LL (by omega) (by omega)) ?_)
    rw [Int.toNat_natCast, getD_LL hi, asR_list, List.length_map, asI_ints, Int.toNat_natCast, wnat (i := j) (by omega)]
    have o1 : okR (im.map L) (i : Int) ⟨false, [.list 1]⟩ = true := okR_LL (by omega) (by omega)
    have o2 : okR (ints (im.getD i [])) (j : Int) ⟨false, [.int]⟩ = true := okR_ok (by omega) (by omega)
    refine EvR.yes (decide_eq_true (by omega)) (EvR.yes o1 (EvR.yes o2 (EvR.yes o1 (EvR.yes o2 (EvR.yes o1 (EvR.yes o2 ?_))))))
    rw [wr1] at hs
    exact at36_1 hi i12 hk n (j + 1) _ (by omega) hs
/-- Two ratios. -/
def CW (p q : Rat) : DV := .agg [.int p.num.sign, L (digits p.num.natAbs), .int (p.den : Int).sign, L (digits (p.den : Int).natAbs), .int q.num.sign, L (digits q.num.natAbs), .int (q.den : Int).sign, L (digits (q.den : Int).natAbs)]
theorem at36 {x6 x7 x8 x9 : Int} {p q : Rat} : ∀ (n i : Nat) (s : S3), im.length = i + n → CallV vt1 54 [.int (wim im n i s).1, .int (wim im n i s).2.2] (RW p) → CallV vt1 54 [.int (wim im n i s).2.1, .int (wim im n i s).2.2] (RW q) →
    AtV vt1 36 0 (tblL [(0, LL im), (2, .ptr 0 0), (3, .int s.1), (4, .int s.2.1), (5, .int s.2.2), (6, .int (i : Int))]) [.box [.int x6, .nils, .int x7, .nils, .int x8, .nils, .int x9, .nils]] (CW p q)
  | 0, i, s, h, k1, k2 => AtV.by (fun ih => e36_0 ih _ _ _ _ _ _ _ _ _) (EvR.no (decide_eq_false (by rw [List.length_map]; omega)) (EvR.call k1 (EvR.yes (isRes_RW _) (EvR.call k2 (EvR.yes (isRes_RW _) (EvR.ret' rfl))))))
  | n + 1, i, s, h, k1, k2 => by
    refine AtV.by (fun ih => e36_0 ih _ _ _ _ _ _ _ _ _) (EvR.yes (decide_eq_true (by rw [List.length_map]; omega)) ?_)
    rw [wim] at k1 k2
    exact at36_1 hr (i := i) (by omega) (by omega) (at36 n (i + 1) _ (by omega) k1 k2) (im.getD i []).length 0 s (by omega) rfl
theorem c36 {p q : Rat} (k1 : CallV vt1 54 [.int (wim im im.length 0 (0, 0, 0)).1, .int (wim im im.length 0 (0, 0, 0)).2.2] (RW p)) (k2 : CallV vt1 54 [.int (wim im im.length 0 (0, 0, 0)).2.1, .int (wim im im.length 0 (0, 0, 0)).2.2] (RW q)) : CallV vt1 36 [LL im] (CW p q) :=
  CallV.by (fun ih => e36 ih _) (at36 h12 hr im.length 0 (0, 0, 0) (by omega) k1 k2)
end
/-- Two fractions. -/
def FF (p q : Rat) : DV := .agg [.int p.num, .int (p.den : Int), .int q.num, .int (q.den : Int)]
theorem c35 {p q : Rat} (h1 : p.num.natAbs ≤ 1000000000) (h2 : p.den ≤ 1000000000) (h3 : q.num.natAbs ≤ 1000000000) (h4 : q.den ≤ 1000000000) : CallV vt1 35 [CW p q] (FF p q) :=
  CallV.by (fun ih => e35 ih _ _ _ _ _ _ _ _) (EvR.call (c55 (q := p) h1 h2) (EvR.yes rfl (EvR.call (c55 (q := q) h3 h4) (EvR.yes rfl (EvR.ret' rfl)))))
/-- A valid image. -/
structure Valid (im : List (List Int)) : Prop where
  pos : 0 < im.length
  len : im.length ≤ 10
  rows : ∀ r ∈ im, r.length ≤ 10 ∧ ∀ x ∈ r, 0 ≤ x ∧ x ≤ 255
  lit : ∃ r ∈ im, ∃ x ∈ r, x ≠ 0
theorem errP_zero {w len : Int} {un odd dark : Bool} (h : errP w len un odd dark = 0) : 0 < w ∧ w ≤ 10 ∧ len ≤ 10 ∧ un = false ∧ odd = false ∧ dark = false := by
  unfold errP at h
  have key : ∀ a b c : Bool, firstNZ [if a && !un then 0 else 10, if b && c then 0 else 8, if odd then 2 else 0, if dark then 11 else 0] = 0 → a = true ∧ b = true ∧ c = true ∧ un = false ∧ odd = false ∧ dark = false := by
    intro a b c
    cases a <;> cases b <;> cases c <;> cases un <;> cases odd <;> cases dark <;> simp [firstNZ]
  obtain ⟨h1, h2, h3, h4⟩ := key _ _ _ h
  simp only [decide_eq_true_eq] at h1 h2 h3
  exact ⟨h1, h2, h3, h4⟩
theorem valid_of {im : List (List Int)} (h : errI im = 0) : Valid im := by
  obtain ⟨w1, w2, w3, hu, ho, hd⟩ := errP_zero h
  have hu' : ∀ r ∈ im, r.length = wide im := fun r hr => by
    unfold uneven at hu
    have := List.any_eq_false.1 hu r hr
    simp at this
    omega
  refine ⟨?_, by omega, fun r hr => ⟨by rw [hu' r hr]; omega, fun x hx => ?_⟩, ?_⟩
  · rcases im with _ | ⟨r, im⟩
    · simp [wide] at w1
    · simp
  · have := List.any_eq_false.1 ho r hr
    have := List.any_eq_false.1 (by simpa using this) x hx
    simpa [oddP] using this
  · obtain ⟨r, hr, h2⟩ := List.all_eq_false.1 hd
    have h2 : r.any litP = true := by simpa using h2
    obtain ⟨x, hx, h3⟩ := List.any_eq_true.1 h2
    exact ⟨r, hr, x, hx, by simpa [litP] using h3⟩
/-- The three sums of an image. -/
def sX (im : List (List Int)) : Int := sumX im
def sY (im : List (List Int)) : Int := wsm 0 (im.map tot)
def sA (im : List (List Int)) : Int := tot (im.map tot)
theorem wim_valid {im : List (List Int)} (h : Valid im) : wim im im.length 0 (0, 0, 0) = (sX im, sY im, sA im) := by
  rw [wim_eq h.len h.rows im.length 0 (0, 0, 0) (by omega) (by simp) (by simp) (by simp), List.drop_zero]
  simp [sX, sY, sA]
end Go.Proofs
