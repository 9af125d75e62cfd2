/- ModalShapes of the given program answers true Part 6 of 10. -/
import Derived.Test.YteolnmnikcobcaaMs5
/- Seat's table for V: the loops' marks (live temps); which functions may hand back a part of an argument. -/
namespace Go.Proofs
open Go Go.Sx Go.Vx
set_option maxRecDepth 100000
def vt1A : List Nat := [4, 27, 16, 18, 35, 153, 129, 130, 154, 155, 97, 96, 131, 133, 132, 98, 134, 136, 135, 156, 53, 65, 67, 68, 105, 103, 69, 106, 55, 99, 95, 54, 52, 47, 10, 11]
def vt1N (f : Nat) : An :=
  bif Nat.beq f 8 then (.seq .nil (.seq .nil (.seq .nil (.seq (.seq .nil (.block (.loop 0 [] [1, 32, 33, 34] .nil))) .nil)))) else
  bif Nat.beq f 10 then (.seq .nil (.seq .nil (.seq .nil (.seq .nil (.seq (.seq .nil (.block (.loop 0 [] [4, 6, 7, 26, 27, 28] (.seq .nil (.seq .nil (.seq (.block (.seq .nil (.seq .nil (.seq (.seq .nil (.block (.loop 1 [] [4, 6, 7, 8, 9, 10, 26, 27, 28, 37, 38, 39] .nil))) (.seq (.seq .nil (.cond (.seq .nil (.block (.loop 2 [] [4, 7, 9, 10, 26, 27, 28, 74, 75, 76] .nil))) .nil)) .nil))))) .nil)))))) .nil))))) else
  bif Nat.beq f 11 then (.seq .nil (.seq .nil (.seq .nil (.seq .nil (.seq (.seq .nil (.block (.loop 0 [] [2, 4, 6, 20, 21, 22] .nil))) .nil))))) else
  bif Nat.beq f 12 then (.seq .nil (.seq .nil (.seq .nil (.seq (.seq .nil (.block (.loop 0 [] [1, 4] .nil))) .nil)))) else
  bif Nat.beq f 13 then (.seq .nil (.seq .nil (.seq (.seq .nil (.block (.loop 0 [] [0, 1, 5] .nil))) .nil))) else
  bif Nat.beq f 14 then (.seq .nil (.seq .nil (.seq (.seq .nil (.block (.loop 0 [] [1, 3, 4, 5] (.seq .nil (.seq (.block (.seq .nil (.seq (.seq .nil (.block (.loop 1 [] [1, 3, 4, 5, 6, 7] .nil))) (.seq (.seq .nil (.block (.loop 2 [] [1, 3, 4, 5, 6, 8] .nil))) .nil)))) .nil))))) .nil))) else
  bif Nat.beq f 15 then (.seq .nil (.seq .nil (.seq (.seq .nil (.block (.loop 0 [] [1, 2, 3, 4] .nil))) .nil))) else
  bif Nat.beq f 16 then (.seq .nil (.seq .nil (.seq .nil (.seq .nil (.seq .nil (.seq (.seq .nil (.block (.loop 0 [] [1, 4, 6, 9, 44, 45, 46] .nil))) (.seq .nil (.seq .nil (.seq (.seq .nil (.block (.loop 1 [] [1, 4, 9, 12, 13, 55, 56, 57] (.seq .nil (.seq .nil (.seq (.block (.seq .nil (.seq .nil (.seq (.seq .nil (.block (.loop 2 [] [1, 4, 9, 12, 13, 15, 16, 55, 56, 57, 64, 65, 66] .nil))) .nil)))) .nil)))))) .nil))))))))) else
  bif Nat.beq f 18 then (.seq .nil (.seq .nil (.seq .nil (.seq .nil (.seq .nil (.seq (.seq .nil (.block (.loop 0 [] [3, 4, 7, 9, 10, 11, 35, 36] (.seq .nil (.seq .nil (.seq (.block (.seq .nil (.seq .nil (.seq (.seq .nil (.block (.loop 1 [] [3, 4, 7, 9, 10, 11, 12, 13, 14, 35, 36, 52, 53] .nil))) .nil)))) .nil)))))) .nil)))))) else
  bif Nat.beq f 19 then (.seq .nil (.seq .nil (.seq .nil (.seq (.seq .nil (.block (.loop 0 [] [4, 5, 12, 13, 14] .nil))) .nil)))) else
  bif Nat.beq f 20 then (.seq .nil (.seq .nil (.seq (.seq .nil (.block (.loop 0 [] [0, 3, 4, 5] .nil))) .nil))) else
  bif Nat.beq f 22 then (.seq .nil (.seq .nil (.seq (.seq .nil (.block (.loop 0 [] [1, 5] .nil))) .nil))) else
  bif Nat.beq f 24 then (.seq .nil (.seq .nil (.seq .nil (.seq (.seq .nil (.block (.loop 0 [] [1, 2, 4, 5, 6, 7] (.seq .nil (.seq (.block (.seq .nil (.seq (.seq .nil (.block (.loop 1 [] [1, 2, 4, 5, 6, 7, 8, 9] .nil))) .nil))) .nil))))) .nil)))) else
  bif Nat.beq f 27 then (.seq .nil (.seq .nil (.seq (.seq .nil (.block (.loop 0 [] [2, 3, 4, 6, 7] .nil))) .nil))) else
  bif Nat.beq f 30 then (.seq .nil (.seq (.seq .nil (.block (.loop 0 [] [0, 3] .nil))) .nil)) else
  bif Nat.beq f 32 then (.seq .nil (.seq .nil (.seq (.seq .nil (.block (.loop 0 [] [0, 3, 4] .nil))) .nil))) else
  bif Nat.beq f 34 then (.seq .nil (.seq .nil (.seq (.seq .nil (.block (.loop 0 [] [0, 3] .nil))) (.seq .nil (.seq .nil (.seq (.seq .nil (.block (.loop 1 [] [0, 4, 5] (.seq .nil (.seq (.block (.seq .nil (.block (.loop 2 [] [0, 4, 5, 6] .nil)))) .nil))))) .nil)))))) else
  bif Nat.beq f 36 then (.seq .nil (.seq .nil (.seq (.seq .nil (.block (.loop 0 [] [0, 2, 3, 4, 5, 6] (.seq .nil (.seq (.block (.seq .nil (.block (.loop 1 [] [0, 2, 3, 4, 5, 6, 7] .nil)))) .nil))))) .nil))) else
  bif Nat.beq f 44 then (.seq .nil (.seq (.seq .nil (.block (.loop 0 [] [5, 6, 7] .nil))) .nil)) else
  bif Nat.beq f 59 then (.seq .nil (.seq .nil (.seq .nil (.seq (.seq .nil (.block (.loop 0 [] [4, 5, 6, 19, 20, 21] .nil))) .nil)))) else
  bif Nat.beq f 63 then (.seq .nil (.seq .nil (.seq (.seq .nil (.block (.loop 0 [] [0, 2, 3, 4] .nil))) (.seq .nil (.seq .nil (.seq (.seq .nil (.block (.loop 1 [] [0, 2, 5, 7, 8] .nil))) .nil)))))) else
  bif Nat.beq f 83 then (.seq .nil (.seq .nil (.seq .nil (.seq .nil (.seq (.seq .nil (.block (.loop 0 [] [0, 3, 4, 5, 6, 14, 15, 16] .nil))) .nil))))) else
  bif Nat.beq f 84 then (.seq .nil (.seq .nil (.seq (.seq .nil (.block (.loop 0 [] [2, 3, 8, 9, 10] (.seq .nil (.seq .nil (.seq (.block (.seq .nil (.seq .nil (.block (.loop 1 [] [2, 3, 4, 8, 9, 10, 15, 16, 17] .nil))))) .nil)))))) .nil))) else
  bif Nat.beq f 87 then (.seq .nil (.seq (.seq .nil (.block (.loop 0 [] [5, 6, 7] .nil))) .nil)) else
  bif Nat.beq f 94 then (.seq .nil (.seq .nil (.seq (.seq .nil (.block (.loop 0 [] [3, 6, 7, 8] (.seq .nil (.seq .nil (.seq (.block (.seq .nil (.block (.loop 1 [] [3, 5, 6, 7, 8] .nil)))) .nil)))))) .nil))) else
  bif Nat.beq f 95 then (.seq .nil (.seq .nil (.seq .nil (.seq .nil (.seq (.block (.loop 0 [⟨4, none, .grow 1⟩] [0, 2, 3, 4] .nil)) .nil))))) else
  bif Nat.beq f 98 then (.seq .nil (.seq .nil (.seq (.seq .nil (.block (.loop 0 [] [2, 3, 4, 5, 6] (.seq .nil (.seq (.block (.seq .nil (.seq (.seq .nil (.block (.loop 1 [] [2, 3, 4, 5, 6, 7, 8] .nil))) .nil))) .nil))))) .nil))) else
  bif Nat.beq f 99 then (.seq .nil (.seq .nil (.seq .nil (.seq (.seq .nil (.block (.loop 0 [] [1, 4, 5] .nil))) .nil)))) else
  bif Nat.beq f 101 then (.seq .nil (.seq (.seq .nil (.block (.loop 0 [] [0, 1, 7, 8] .nil))) .nil)) else
  bif Nat.beq f 104 then (.seq .nil (.seq (.block (.loop 0 [] [0, 1] .nil)) .nil)) else
  bif Nat.beq f 110 then (.seq .nil (.seq .nil (.seq (.seq .nil (.block (.loop 0 [] [3, 6, 7, 8] (.seq .nil (.seq .nil (.seq (.block (.seq .nil (.block (.loop 1 [] [3, 5, 6, 7, 8] .nil)))) .nil)))))) .nil))) else
  bif Nat.beq f 131 then (.seq .nil (.seq .nil (.seq (.block (.loop 0 [] [2, 3, 4] .nil)) .nil))) else
  bif Nat.beq f 133 then (.seq .nil (.seq .nil (.seq .nil (.seq (.seq .nil (.block (.loop 0 [⟨6, none, .frz 1⟩] [2, 3, 4, 5, 6, 7] (.seq .nil (.seq (.block (.seq .nil (.seq .nil (.seq (.block (.loop 1 [] [2, 3, 4, 5, 6, 7, 8, 9] .nil)) .nil)))) .nil))))) .nil)))) else
  bif Nat.beq f 134 then (.seq .nil (.seq .nil (.seq .nil (.seq (.seq .nil (.block (.loop 0 [⟨5, none, .grow 1⟩] [0, 1, 5, 6, 7] .nil))) .nil)))) else
  bif Nat.beq f 135 then (.seq .nil (.seq .nil (.seq (.seq .nil (.block (.loop 0 [] [0, 1, 5] .nil))) .nil))) else
  bif Nat.beq f 136 then (.seq .nil (.seq .nil (.seq .nil (.seq (.seq .nil (.block (.loop 0 [⟨5, none, .grow 1⟩] [0, 1, 5, 6, 7] .nil))) .nil)))) else
  bif Nat.beq f 150 then (.seq .nil (.seq (.seq .nil (.block (.loop 0 [] [0, 1, 7, 8] .nil))) .nil)) else
  bif Nat.beq f 153 then (.seq .nil (.seq .nil (.seq (.block (.loop 0 [] [0, 3] .nil)) .nil))) else
  .nil
def vt1P (f : Nat) : Bool := Nat.beq f 6 || Nat.beq f 29
noncomputable def vt1 : VTab := { tab := tabV vt1P BIG, al := fun f => memN f vt1A, an := vt1N, kn := fun f => Nat.beq f 102 }
end Go.Proofs
/- Equations of V for functions of the program: written by a program of this session (NF, NFg, gq). -/
namespace Go.Proofs
open Go Go.Sx Go.Vx
set_option maxRecDepth 100000
set_option maxHeartbeats 0
theorem e57 (ih : VIh) (x0 : Int) : callF vt1 ih 57 [DV.int x0] =
  bindC (ih.call 58 [DV.int x0, DV.int 1000]) fun r0 =>
   (bif isRes [{ ag := false, css := [CS.bool] }] r0 then
    some (DV.bool !asB r0)
   else none) := by kernel_rfl
theorem e58 (ih : VIh) (x0 : Int) (x1 : Int) : callF vt1 ih 58 [DV.int x0, DV.int x1] =
  bindC (ih.call 46 [DV.int x0, DV.int (w64 (0 - x1)), DV.int x1]) fun r0 =>
   (bif isRes [{ ag := false, css := [CS.bool] }] r0 then
    some (DV.bool (asB r0))
   else none) := by kernel_rfl
theorem e59 (ih : VIh) (l0 : List DV) (x1 : Int) : callF vt1 ih 59 [DV.list true false 1 l0, DV.int x1] =
  (bif true && decide (l0.length ≤ 1048576) then
   (bif lenOk l0 [DV.int x1] then
    bindC (ih.call 94 [DV.list true false 1 (l0 ++ [DV.int x1])]) fun r2 =>
     (bif isRes [{ ag := false, css := [CS.int] }] r2 then
      (bif decide (asI r2 = 0) then
       none
      else ih.at_ 59 0 (tblL [(4, DV.ptr 0 0), (5, DV.int (asI r2)), (6, DV.ptr 1 0), (19, DV.list true false 1 l0), (20, DV.int (↑l0.length : Int)), (21, DV.int 0)]) [.box [DV.int 0, DV.nils], .box [DV.int (w64 (x1.tdiv (asI r2))), DV.nils]])
     else none)
   else none)
  else none) := by kernel_rfl
theorem e59_0 (ih : VIh) (x0 : Int) (l1 : List DV) (x2 : Int) (x3 : Int) (x4 : Int) (x5 : Int) : atF vt1 ih 59 0 (tblL [(4, DV.ptr 0 0), (5, DV.int x0), (6, DV.ptr 1 0), (19, DV.list true false 1 l1), (20, DV.int x2), (21, DV.int x3)]) [VB.box [DV.int x4, DV.nils], VB.box [DV.int x5, DV.nils]] =
  (bif decide (x3 < x2) then
   (bif okR l1 x3 { ag := false, css := [CS.int] } then
    (bif decide (x0 = 0) then
     none
    else ih.at_ 59 0 (tblL [(4, DV.ptr 0 0), (5, DV.int x0), (6, DV.ptr 1 0), (19, DV.list true false 1 l1), (20, DV.int x2), (21, DV.int (w64 (x3 + 1)))]) [.box [DV.int x4, DV.nils], .box [DV.int x5, DV.own 2], .row true 1 ([DV.int (w64 ((asI (l1.getD x3.toNat DV.undef)).tdiv x0))])])
   else none)
  else some (DV.agg [DV.int x5, DV.list false false 1 []])) := by kernel_rfl
theorem e59_0_1 (ih : VIh) (x0 : Int) (l1 : List DV) (x2 : Int) (x3 : Int) (x4 : Int) (x5 : Int) (l6 : List DV) : atF vt1 ih 59 0 (tblL [(4, DV.ptr 0 0), (5, DV.int x0), (6, DV.ptr 1 0), (19, DV.list true false 1 l1), (20, DV.int x2), (21, DV.int x3)]) [VB.box [DV.int x4, DV.nils], VB.box [DV.int x5, DV.own 2], VB.row true 1 l6] =
  (bif decide (x3 < x2) then
   (bif okR l1 x3 { ag := false, css := [CS.int] } then
    (bif decide (x0 = 0) then
     none
    else (bif lenOk l6 [DV.int (w64 ((asI (l1.getD x3.toNat DV.undef)).tdiv x0))] then
      ih.at_ 59 0 (tblL [(4, DV.ptr 0 0), (5, DV.int x0), (6, DV.ptr 1 0), (19, DV.list true false 1 l1), (20, DV.int x2), (21, DV.int (w64 (x3 + 1)))]) [.box [DV.int x4, DV.nils], .box [DV.int x5, DV.own 2], .row true 1 (l6 ++ [DV.int (w64 ((asI (l1.getD x3.toNat DV.undef)).tdiv x0))])]
     else none))
   else none)
  else some (DV.agg [DV.int x5, DV.list false false 1 l6])) := by kernel_rfl
theorem e60 (ih : VIh) (x0 : Int) (x1 : Int) : callF vt1 ih 60 [DV.agg [DV.int x0, DV.int x1]] =
  (bif decide (0 < x1) then
   bindC (ih.call 94 [DV.list true false 1 [DV.int x0, DV.int x1]]) fun r1 =>
    (bif isRes [{ ag := false, css := [CS.int] }] r1 then
     bindC (ih.call 45 [DV.bool (decide (asI r1 = 1)), DV.int 3]) fun r3 =>
      (bif isRes [{ ag := false, css := [CS.int] }] r3 then
       bindC (ih.call 58 [DV.int x0, DV.int 100]) fun r5 =>
        (bif isRes [{ ag := false, css := [CS.bool] }] r5 then
         (bif asB r5 then
          bindC (ih.call 45 [DV.bool (decide (x1 ≤ 100)), DV.int 2]) fun r8 =>
           (bif isRes [{ ag := false, css := [CS.int] }] r8 then
            bindC (ih.call 44 [DV.list true false 1 [DV.int (asI r3), DV.int (asI r8)]]) fun r10 =>
            (bif isRes [{ ag := false, css := [CS.int] }] r10 then
            some (DV.int (asI r10))
            else none)
           else none)
         else bindC (ih.call 45 [DV.bool false, DV.int 2]) fun r12 =>
           (bif isRes [{ ag := false, css := [CS.int] }] r12 then
            bindC (ih.call 44 [DV.list true false 1 [DV.int (asI r3), DV.int (asI r12)]]) fun r14 =>
            (bif isRes [{ ag := false, css := [CS.int] }] r14 then
            some (DV.int (asI r14))
            else none)
           else none))
        else none)
      else none)
    else none)
  else bindC (ih.call 45 [DV.bool false, DV.int 3]) fun r16 =>
    (bif isRes [{ ag := false, css := [CS.int] }] r16 then
     bindC (ih.call 58 [DV.int x0, DV.int 100]) fun r18 =>
      (bif isRes [{ ag := false, css := [CS.bool] }] r18 then
       (bif asB r18 then
        bindC (ih.call 45 [DV.bool (decide (x1 ≤ 100)), DV.int 2]) fun r21 =>
         (bif isRes [{ ag := false, css := [CS.int] }] r21 then
          bindC (ih.call 44 [DV.list true false 1 [DV.int (asI r16), DV.int (asI r21)]]) fun r23 =>
           (bif isRes [{ ag := false, css := [CS.int] }] r23 then
            some (DV.int (asI r23))
           else none)
         else none)
       else bindC (ih.call 45 [DV.bool false, DV.int 2]) fun r25 =>
         (bif isRes [{ ag := false, css := [CS.int] }] r25 then
          bindC (ih.call 44 [DV.list true false 1 [DV.int (asI r16), DV.int (asI r25)]]) fun r27 =>
           (bif isRes [{ ag := false, css := [CS.int] }] r27 then
            some (DV.int (asI r27))
           else none)
         else none))
      else none)
    else none)) := by kernel_rfl
theorem e62 (ih : VIh) (x0 : Int) : callF vt1 ih 62 [DV.int x0] =
  (bif decide (0 < x0) then
   some (DV.int 1)
  else (bif decide (x0 < 0) then
    some (DV.int (-1))
   else some (DV.int 0))) := by kernel_rfl
theorem e16 (ih : VIh) (l0 : List DV) (l1 : List DV) (l2 : List DV) : callF vt1 ih 16 [DV.agg [DV.list false false 1 l0, DV.list false false 1 l1], DV.list false false 1 l2] =
  bindC (ih.call 47 [DV.agg [DV.list false false 1 l0, DV.list false false 1 l1]]) fun r0 =>
   (bif isRes [{ ag := true, css := [CS.list 1, CS.list 1] }, { ag := false, css := [CS.int] }] r0 then
    bindC (ih.call 56 [DV.list true false 1 l2, DV.func 57 [] []]) fun r2 =>
     (bif isRes [{ ag := false, css := [CS.bool] }] r2 then
      bindC (ih.call 45 [DV.bool (decide ((↑l2.length : Int) = (↑l0.length : Int))), DV.int 10]) fun r4 =>
       (bif isRes [{ ag := false, css := [CS.int] }] r4 then
        bindC (ih.call 45 [DV.bool !asB r2, DV.int 2]) fun r6 =>
         (bif isRes [{ ag := false, css := [CS.int] }] r6 then
          bindC (ih.call 44 [DV.list true false 1 [DV.int (asI ((tupL r0).getD 1 DV.undef)), DV.int (asI r4), DV.int (asI r6)]]) fun r8 =>
           (bif isRes [{ ag := false, css := [CS.int] }] r8 then
            (bif !decide (asI r8 = 0) then
            some (DV.tup [DV.agg [DV.int 0, DV.list false false 1 []], DV.int (asI r8)])
            else ih.at_ 16 0 (tblL [(1, DV.list false false 1 l2), (4, DV.ptr 0 0), (6, DV.ptr 1 0), (9, DV.int 1), (44, DV.list false false 1 (asR (cellOf ((tupL r0).getD 0 DV.undef) 1))), (45, DV.int (↑(asR (cellOf ((tupL r0).getD 0 DV.undef) 1)).length : Int)), (46, DV.int 0)]) [.box [DV.int 0, DV.nils], .box [DV.list false false 1 (asR (cellOf ((tupL r0).getD 0 DV.undef) 0)),
  DV.list false false 1 (asR (cellOf ((tupL r0).getD 0 DV.undef) 1))]])
           else none)
         else none)
       else none)
     else none)
   else none) := by kernel_rfl
theorem e16_0 (ih : VIh) (l0 : List DV) (x1 : Int) (l2 : List DV) (x3 : Int) (x4 : Int) (x5 : Int) (l6 : List DV) (l7 : List DV) : atF vt1 ih 16 0 (tblL [(1, DV.list false false 1 l0), (4, DV.ptr 0 0), (6, DV.ptr 1 0), (9, DV.int x1), (44, DV.list false false 1 l2), (45, DV.int x3), (46, DV.int x4)]) [VB.box [DV.int x5, DV.nils], VB.box [DV.list false false 1 l6, DV.list false false 1 l7]] =
  (bif decide (x4 < x3) then
   (bif okR l2 x4 { ag := false, css := [CS.int] } then
    ih.at_ 16 0 (tblL [(1, DV.list false false 1 l0), (4, DV.ptr 0 0), (6, DV.ptr 1 0), (9, DV.int (w64 (x1 * asI (l2.getD x4.toNat DV.undef)))), (44, DV.list false false 1 l2), (45, DV.int x3), (46, DV.int (w64 (x4 + 1)))]) [.box [DV.int x5, DV.nils], .box [DV.list false false 1 l6, DV.list false false 1 l7]]
   else none)
  else ih.at_ 16 1 (tblL [(1, DV.list false false 1 l0), (4, DV.ptr 0 0), (9, DV.int x1), (12, DV.nils), (13, DV.int 0), (55, DV.list false false 1 l7), (56, DV.int (↑l7.length : Int)), (57, DV.int 0)]) [.box [DV.int x5, DV.nils]]) := by kernel_rfl
theorem e16_1 (ih : VIh) (l0 : List DV) (x1 : Int) (x2 : Int) (l3 : List DV) (x4 : Int) (x5 : Int) (x6 : Int) : atF vt1 ih 16 1 (tblL [(1, DV.list false false 1 l0), (4, DV.ptr 0 0), (9, DV.int x1), (12, DV.nils), (13, DV.int x2), (55, DV.list false false 1 l3), (56, DV.int x4), (57, DV.int x5)]) [VB.box [DV.int x6, DV.nils]] =
  (bif decide (x5 < x4) then
   (bif okR l3 x5 { ag := false, css := [CS.int] } then
    (bif decide (0 ≤ x5) && decide (x5 < (↑l0.length : Int)) then
     ih.at_ 16 2 (tblL [(1, DV.list false false 1 l0), (4, DV.ptr 0 0), (9, DV.int x1), (12, DV.nils), (13, DV.int x2), (15, DV.int (asI (l3.getD x5.toNat DV.undef))), (16, DV.int 0), (55, DV.list false false 1 l3), (56, DV.int x4), (57, DV.int x5), (64, DV.list false false 1 (List.drop x5.toNat l0)), (65, DV.int (↑(List.drop x5.toNat l0).length : Int)), (66, DV.int 0)]) [.box [DV.int x6, DV.nils]]
    else none)
   else none)
  else bindC (ih.call 59 [DV.list true false 1 [], DV.int x1]) fun r3 =>
    (bif isRes [{ ag := true, css := [CS.int, CS.list 1] }] r3 then
     some (DV.tup [DV.agg [DV.int (asI (cellOf r3 0)), DV.list false false 1 (asR (cellOf r3 1))], DV.int 0])
    else none)) := by kernel_rfl
theorem e16_2 (ih : VIh) (l0 : List DV) (x1 : Int) (x2 : Int) (x3 : Int) (x4 : Int) (l5 : List DV) (x6 : Int) (x7 : Int) (l8 : List DV) (x9 : Int) (x10 : Int) (x11 : Int) : atF vt1 ih 16 2 (tblL [(1, DV.list false false 1 l0), (4, DV.ptr 0 0), (9, DV.int x1), (12, DV.nils), (13, DV.int x2), (15, DV.int x3), (16, DV.int x4), (55, DV.list false false 1 l5), (56, DV.int x6), (57, DV.int x7), (64, DV.list false false 1 l8), (65, DV.int x9), (66, DV.int x10)]) [VB.box [DV.int x11, DV.nils]] =
  (bif decide (x10 < x9) then
   (bif okR l8 x10 { ag := false, css := [CS.int] } then
    ih.at_ 16 2 (tblL [(1, DV.list false false 1 l0), (4, DV.ptr 0 0), (9, DV.int x1), (12, DV.nils), (13, DV.int x2), (15, DV.int x3), (16, DV.int (w64 (x4 + asI (l8.getD x10.toNat DV.undef)))), (55, DV.list false false 1 l5), (56, DV.int x6), (57, DV.int x7), (64, DV.list false false 1 l8), (65, DV.int x9), (66, DV.int (w64 (x10 + 1)))]) [.box [DV.int x11, DV.nils]]
   else none)
  else (bif decide (x3 = 0) then
    none
   else ih.at_ 16 1 (tblL [(1, DV.list false false 1 l0), (4, DV.ptr 0 0), (9, DV.int x1), (12, DV.own 1), (13, DV.int (w64 (x2 + w64 (x4 * w64 (x1.tdiv x3))))), (55, DV.list false false 1 l5), (56, DV.int x6), (57, DV.int (w64 (x7 + 1)))]) [.box [DV.int x11, DV.nils], .row true 1 ([DV.int (w64 (x2 + w64 (x4 * w64 (x1.tdiv x3))))])])) := by kernel_rfl
theorem e16_1_1 (ih : VIh) (l0 : List DV) (x1 : Int) (x2 : Int) (l3 : List DV) (x4 : Int) (x5 : Int) (x6 : Int) (l7 : List DV) : atF vt1 ih 16 1 (tblL [(1, DV.list false false 1 l0), (4, DV.ptr 0 0), (9, DV.int x1), (12, DV.own 1), (13, DV.int x2), (55, DV.list false false 1 l3), (56, DV.int x4), (57, DV.int x5)]) [VB.box [DV.int x6, DV.nils], VB.row true 1 l7] =
  (bif decide (x5 < x4) then
   (bif okR l3 x5 { ag := false, css := [CS.int] } then
    (bif decide (0 ≤ x5) && decide (x5 < (↑l0.length : Int)) then
     ih.at_ 16 2 (tblL [(1, DV.list false false 1 l0), (4, DV.ptr 0 0), (9, DV.int x1), (12, DV.own 1), (13, DV.int x2), (15, DV.int (asI (l3.getD x5.toNat DV.undef))), (16, DV.int 0), (55, DV.list false false 1 l3), (56, DV.int x4), (57, DV.int x5), (64, DV.list false false 1 (List.drop x5.toNat l0)), (65, DV.int (↑(List.drop x5.toNat l0).length : Int)), (66, DV.int 0)]) [.box [DV.int x6, DV.nils], .row true 1 (l7)]
    else none)
   else none)
  else bindC (ih.call 59 [DV.list true false 1 l7, DV.int x1]) fun r3 =>
    (bif isRes [{ ag := true, css := [CS.int, CS.list 1] }] r3 then
     some (DV.tup [DV.agg [DV.int (asI (cellOf r3 0)), DV.list false false 1 (asR (cellOf r3 1))], DV.int 0])
    else none)) := by kernel_rfl
theorem e16_2_1 (ih : VIh) (l0 : List DV) (x1 : Int) (x2 : Int) (x3 : Int) (x4 : Int) (l5 : List DV) (x6 : Int) (x7 : Int) (l8 : List DV) (x9 : Int) (x10 : Int) (x11 : Int) (l12 : List DV) : atF vt1 ih 16 2 (tblL [(1, DV.list false false 1 l0), (4, DV.ptr 0 0), (9, DV.int x1), (12, DV.own 1), (13, DV.int x2), (15, DV.int x3), (16, DV.int x4), (55, DV.list false false 1 l5), (56, DV.int x6), (57, DV.int x7), (64, DV.list false false 1 l8), (65, DV.int x9), (66, DV.int x10)]) [VB.box [DV.int x11, DV.nils], VB.row true 1 l12] =
  (bif decide (x10 < x9) then
   (bif okR l8 x10 { ag := false, css := [CS.int] } then
    ih.at_ 16 2 (tblL [(1, DV.list false false 1 l0), (4, DV.ptr 0 0), (9, DV.int x1), (12, DV.own 1), (13, DV.int x2), (15, DV.int x3), (16, DV.int (w64 (x4 + asI (l8.getD x10.toNat DV.undef)))), (55, DV.list false false 1 l5), (56, DV.int x6), (57, DV.int x7), (64, DV.list false false 1 l8), (65, DV.int x9), (66, DV.int (w64 (x10 + 1)))]) [.box [DV.int x11, DV.nils], .row true 1 (l12)]
   else none)
  else (bif decide (x3 = 0) then
    none
   else (bif lenOk l12 [DV.int (w64 (x2 + w64 (x4 * w64 (x1.tdiv x3))))] then
     ih.at_ 16 1 (tblL [(1, DV.list false false 1 l0), (4, DV.ptr 0 0), (9, DV.int x1), (12, DV.own 1), (13, DV.int (w64 (x2 + w64 (x4 * w64 (x1.tdiv x3))))), (55, DV.list false false 1 l5), (56, DV.int x6), (57, DV.int (w64 (x7 + 1)))]) [.box [DV.int x11, DV.nils], .row true 1 (l12 ++ [DV.int (w64 (x2 + w64 (x4 * w64 (x1.tdiv x3))))])]
    else none))) := by kernel_rfl
theorem e18 (ih : VIh) (l0 : List DV) (l1 : List DV) (x2 : Int) (x3 : Int) : callF vt1 ih 18 [DV.agg [DV.list false false 1 l0, DV.list false false 1 l1], DV.agg [DV.int x2, DV.int x3]] =
  bindC (ih.call 47 [DV.agg [DV.list false false 1 l0, DV.list false false 1 l1]]) fun r0 =>
   (bif isRes [{ ag := true, css := [CS.list 1, CS.list 1] }, { ag := false, css := [CS.int] }] r0 then
    bindC (ih.call 60 [DV.agg [DV.int x2, DV.int x3]]) fun r2 =>
     (bif isRes [{ ag := false, css := [CS.int] }] r2 then
      bindC (ih.call 44 [DV.list true false 1 [DV.int (asI ((tupL r0).getD 1 DV.undef)), DV.int (asI r2)]]) fun r4 =>
       (bif isRes [{ ag := false, css := [CS.int] }] r4 then
        (bif !decide (asI r4 = 0) then
         some (DV.tup [DV.agg [DV.int 0, DV.list false false 1 []], DV.int 0, DV.int (asI r4)])
        else ih.at_ 18 0 (tblL [(3, DV.ptr 0 0), (4, DV.ptr 1 0), (7, DV.ptr 2 0), (9, DV.ptr 3 0), (10, DV.int 1), (11, DV.func 61 [] [DV.ptr 3 0, DV.ptr 0 0, DV.ptr 2 0]), (35, DV.int (w64 ((↑(asR (cellOf ((tupL r0).getD 0 DV.undef) 0)).length : Int) - 1))), (36, DV.int 0)]) [.box [DV.int x2, DV.int x3], .box [DV.int 0, DV.nils], .box [DV.list false false 1 (asR (cellOf ((tupL r0).getD 0 DV.undef) 0)),
  DV.list false false 1 (asR (cellOf ((tupL r0).getD 0 DV.undef) 1))], .box [DV.own 4], .row false 1 ([DV.int 1])])
       else none)
     else none)
   else none) := by kernel_rfl
theorem e18_0 (ih : VIh) (x0 : Int) (x1 : Int) (x2 : Int) (x3 : Int) (x4 : Int) (x5 : Int) (l6 : List DV) (l7 : List DV) (l8 : List DV) : atF vt1 ih 18 0 (tblL [(3, DV.ptr 0 0), (4, DV.ptr 1 0), (7, DV.ptr 2 0), (9, DV.ptr 3 0), (10, DV.int x0), (11, DV.func 61 [] [DV.ptr 3 0, DV.ptr 0 0, DV.ptr 2 0]), (35, DV.int x1), (36, DV.int x2)]) [VB.box [DV.int x3, DV.int x4], VB.box [DV.int x5, DV.nils], VB.box [DV.list false false 1 l6, DV.list false false 1 l7], VB.box [DV.own 4], VB.row false 1 l8] =
  (bif decide (x2 < x1) then
   bindC (ih.call 61 [DV.int x2, DV.fbp true [DV.list true false 1 l8] 0, DV.fbp true [DV.int x3, DV.int x4] 0,
  DV.fbp true [DV.list true false 1 l6, DV.list true false 1 l7] 0]) fun r1 =>
    (bif isRes [{ ag := false, css := [CS.int] }] r1 then
     (bif okR l7 (w64 (x2 + 1)) { ag := false, css := [CS.int] } then
      ih.at_ 18 1 (tblL [(3, DV.ptr 0 0), (4, DV.ptr 1 0), (7, DV.ptr 2 0), (9, DV.ptr 3 0), (10, DV.int x0), (11, DV.func 61 [] [DV.ptr 3 0, DV.ptr 0 0, DV.ptr 2 0]), (12, DV.int x2), (13, DV.int (asI r1)), (14, DV.int (w64 (x4 * asI (l7.getD (w64 (x2 + 1)).toNat DV.undef)))), (35, DV.int x1), (36, DV.int x2), (52, DV.int (↑l8.length : Int)), (53, DV.int 0)]) [.box [DV.int x3, DV.int x4], .box [DV.int x5, DV.nils], .box [DV.list false false 1 l6, DV.list false false 1 l7], .box [DV.own 4], .row false 1 (l8)]
     else none)
    else none)
  else bindC (ih.call 59 [DV.list true false 1 l8, DV.int x0]) fun r4 =>
    (bif isRes [{ ag := true, css := [CS.int, CS.list 1] }] r4 then
     bindC (ih.call 61 [DV.int (w64 ((↑l8.length : Int) - 1)), DV.fbp true [DV.list true false 1 l8] 0, DV.fbp true [DV.int x3, DV.int x4] 0,
  DV.fbp true [DV.list true false 1 l6, DV.list true false 1 l7] 0]) fun r6 =>
      (bif isRes [{ ag := false, css := [CS.int] }] r6 then
       bindC (ih.call 62 [DV.int (asI r6)]) fun r8 =>
        (bif isRes [{ ag := false, css := [CS.int] }] r8 then
         some (DV.tup [DV.agg [DV.int (asI (cellOf r4 0)), DV.list false false 1 (asR (cellOf r4 1))], DV.int (asI r8), DV.int 0])
        else none)
      else none)
    else none)) := by kernel_rfl
theorem e18_1 (ih : VIh) (x0 : Int) (x1 : Int) (x2 : Int) (x3 : Int) (x4 : Int) (x5 : Int) (x6 : Int) (x7 : Int) (x8 : Int) (x9 : Int) (x10 : Int) (l11 : List DV) (l12 : List DV) (l13 : List DV) : atF vt1 ih 18 1 (tblL [(3, DV.ptr 0 0), (4, DV.ptr 1 0), (7, DV.ptr 2 0), (9, DV.ptr 3 0), (10, DV.int x0), (11, DV.func 61 [] [DV.ptr 3 0, DV.ptr 0 0, DV.ptr 2 0]), (12, DV.int x1), (13, DV.int x2), (14, DV.int x3), (35, DV.int x4), (36, DV.int x5), (52, DV.int x6), (53, DV.int x7)]) [VB.box [DV.int x8, DV.int x9], VB.box [DV.int x10, DV.nils], VB.box [DV.list false false 1 l11, DV.list false false 1 l12], VB.box [DV.own 4], VB.row false 1 l13] =
  (bif decide (x7 < x6) then
   (bif inR x7 l13 then
    (bif isRow { ag := false, css := [CS.int] } (l13.getD x7.toNat DV.undef) then
     (bif inR x7 l13 then
      ih.at_ 18 1 (tblL [(3, DV.ptr 0 0), (4, DV.ptr 1 0), (7, DV.ptr 2 0), (9, DV.ptr 3 0), (10, DV.int x0), (11, DV.func 61 [] [DV.ptr 3 0, DV.ptr 0 0, DV.ptr 2 0]), (12, DV.int x1), (13, DV.int x2), (14, DV.int x3), (35, DV.int x4), (36, DV.int x5), (52, DV.int x6), (53, DV.int (w64 (x7 + 1)))]) [.box [DV.int x8, DV.int x9], .box [DV.int x10, DV.nils], .box [DV.list false false 1 l11, DV.list false false 1 l12], .box [DV.own 4], .row false 1 (l13.set x7.toNat (DV.int (w64 (asI (l13.getD x7.toNat DV.undef) * x3))))]
     else none)
    else none)
   else none)
  else (bif inR x1 l13 then
    (bif isRow { ag := false, css := [CS.int] } (l13.getD x1.toNat DV.undef) then
     (bif lenOk l13 [DV.int (w64 (asI (l13.getD x1.toNat DV.undef) + x2))] then
      ih.at_ 18 0 (tblL [(3, DV.ptr 0 0), (4, DV.ptr 1 0), (7, DV.ptr 2 0), (9, DV.ptr 3 0), (10, DV.int (w64 (x0 * x3))), (11, DV.func 61 [] [DV.ptr 3 0, DV.ptr 0 0, DV.ptr 2 0]), (35, DV.int x4), (36, DV.int (w64 (x5 + 1)))]) [.box [DV.int x8, DV.int x9], .box [DV.int x10, DV.nils], .box [DV.list false false 1 l11, DV.list false false 1 l12], .box [DV.own 4], .row false 1 (l13 ++ [DV.int (w64 (asI (l13.getD x1.toNat DV.undef) + x2))])]
     else none)
    else none)
   else none)) := by kernel_rfl
theorem e19 (ih : VIh) (l0 : List DV) : callF vt1 ih 19 [DV.list true false 1 l0] =
  (bif decide (60 < (↑l0.length : Int)) then
   some (DV.tup [DV.int 0, DV.int 8])
  else ih.at_ 19 0 (tblL [(4, DV.int 0), (5, DV.int 0), (12, DV.list true false 1 l0), (13, DV.int (↑l0.length : Int)), (14, DV.int 0)]) []) := by kernel_rfl
theorem e19_0 (ih : VIh) (x0 : Int) (x1 : Int) (l2 : List DV) (x3 : Int) (x4 : Int) : atF vt1 ih 19 0 (tblL [(4, DV.int x0), (5, DV.int x1), (12, DV.list true false 1 l2), (13, DV.int x3), (14, DV.int x4)]) [] =
  (bif decide (x4 < x3) then
   (bif okR l2 x4 { ag := false, css := [CS.int] } then
    bindC (ih.call 62 [DV.int (asI (l2.getD x4.toNat DV.undef))]) fun r2 =>
     (bif isRes [{ ag := false, css := [CS.int] }] r2 then
      (bif !decide (asI r2 = 0) then
       (bif decide (asI r2 = w64 (0 - x1)) then
        (bif !decide (asI r2 = 0) then
         ih.at_ 19 0 (tblL [(4, DV.int (w64 (x0 + 1))), (5, DV.int (asI r2)), (12, DV.list true false 1 l2), (13, DV.int x3), (14, DV.int (w64 (x4 + 1)))]) []
        else ih.at_ 19 0 (tblL [(4, DV.int (w64 (x0 + 1))), (5, DV.int x1), (12, DV.list true false 1 l2), (13, DV.int x3), (14, DV.int (w64 (x4 + 1)))]) [])
       else (bif !decide (asI r2 = 0) then
         ih.at_ 19 0 (tblL [(4, DV.int x0), (5, DV.int (asI r2)), (12, DV.list true false 1 l2), (13, DV.int x3), (14, DV.int (w64 (x4 + 1)))]) []
        else ih.at_ 19 0 (tblL [(4, DV.int x0), (5, DV.int x1), (12, DV.list true false 1 l2), (13, DV.int x3), (14, DV.int (w64 (x4 + 1)))]) []))
      else (bif !decide (asI r2 = 0) then
        ih.at_ 19 0 (tblL [(4, DV.int x0), (5, DV.int (asI r2)), (12, DV.list true false 1 l2), (13, DV.int x3), (14, DV.int (w64 (x4 + 1)))]) []
       else ih.at_ 19 0 (tblL [(4, DV.int x0), (5, DV.int x1), (12, DV.list true false 1 l2), (13, DV.int x3), (14, DV.int (w64 (x4 + 1)))]) []))
     else none)
   else none)
  else some (DV.tup [DV.int x0, DV.int 0])) := by kernel_rfl
theorem e20 (ih : VIh) (l0 : List DV) : callF vt1 ih 20 [DV.list true false 1 l0] =
  ih.at_ 20 0 (tblL [(0, DV.list true false 1 l0), (3, DV.int 0), (4, DV.int 0), (5, DV.int 0)]) [] := by kernel_rfl
theorem e20_0 (ih : VIh) (l0 : List DV) (x1 : Int) (x2 : Int) (x3 : Int) : atF vt1 ih 20 0 (tblL [(0, DV.list true false 1 l0), (3, DV.int x1), (4, DV.int x2), (5, DV.int x3)]) [] =
  (bif decide (x3 < (↑l0.length : Int)) then
   (bif okR l0 x3 { ag := false, css := [CS.int] } then
    (bif decide (asI (l0.getD x3.toNat DV.undef) = 0) then
     ih.at_ 20 0 (tblL [(0, DV.list true false 1 l0), (3, DV.int x1), (4, DV.int x2), (5, DV.int (w64 (x3 + 1)))]) []
    else (bif !decide (x2 = 0) then
      (bif okR l0 x3 { ag := false, css := [CS.int] } then
       (bif !decide (x2 < 0) == decide (asI (l0.getD x3.toNat DV.undef) < 0) then
        (bif okR l0 x3 { ag := false, css := [CS.int] } then
         ih.at_ 20 0 (tblL [(0, DV.list true false 1 l0), (3, DV.int (w64 (x1 + 1))), (4, DV.int (asI (l0.getD x3.toNat DV.undef))), (5, DV.int (w64 (x3 + 1)))]) []
        else none)
       else (bif okR l0 x3 { ag := false, css := [CS.int] } then
         ih.at_ 20 0 (tblL [(0, DV.list true false 1 l0), (3, DV.int x1), (4, DV.int (asI (l0.getD x3.toNat DV.undef))), (5, DV.int (w64 (x3 + 1)))]) []
        else none))
      else none)
     else (bif okR l0 x3 { ag := false, css := [CS.int] } then
       ih.at_ 20 0 (tblL [(0, DV.list true false 1 l0), (3, DV.int x1), (4, DV.int (asI (l0.getD x3.toNat DV.undef))), (5, DV.int (w64 (x3 + 1)))]) []
      else none)))
   else none)
  else some (DV.int x1)) := by kernel_rfl
theorem e21 (ih : VIh) (l0 : List DV) (l1 : List DV) : callF vt1 ih 21 [DV.agg [DV.list true false 1 l0, DV.list true false 1 l1]] =
  bindC (ih.call 12 [DV.agg [DV.list true false 1 l0, DV.list true false 1 l1]]) fun r0 =>
   (bif isRes [{ ag := false, css := [CS.int] }, { ag := false, css := [CS.int] }] r0 then
    some (DV.int (asI ((tupL r0).getD 1 DV.undef)))
   else none) := by kernel_rfl
theorem e22 (ih : VIh) (l0 : List DV) (l1 : List DV) (l2 : List DV) : callF vt1 ih 22 [DV.agg [DV.list true false 1 l0, DV.list true false 1 l1], DV.list true false 1 l2] =
  (bif !decide ((↑l2.length : Int) = (↑l0.length : Int)) then
   some (DV.int 10)
  else ih.at_ 22 0 (tblL [(1, DV.list true false 1 l2), (5, DV.int 0)]) []) := by kernel_rfl
theorem e22_0 (ih : VIh) (l0 : List DV) (x1 : Int) : atF vt1 ih 22 0 (tblL [(1, DV.list true false 1 l0), (5, DV.int x1)]) [] =
  (bif decide (x1 < (↑l0.length : Int)) then
   (bif okR l0 x1 { ag := false, css := [CS.int] } then
    bindC (ih.call 50 [DV.int (asI (l0.getD x1.toNat DV.undef)), DV.int (-1000), DV.int 1000]) fun r2 =>
     (bif isRes [{ ag := false, css := [CS.bool] }] r2 then
      (bif !asB r2 then
       some (DV.int 2)
      else ih.at_ 22 0 (tblL [(1, DV.list true false 1 l0), (5, DV.int (w64 (x1 + 1)))]) [])
     else none)
   else none)
  else some (DV.int 0)) := by kernel_rfl
theorem e23 (ih : VIh) (x0 : Int) (l1 : List DV) (x2 : Int) (l3 : List DV) : callF vt1 ih 23 [DV.agg [DV.int x0, DV.list true false 1 l1], DV.agg [DV.int x2, DV.list true false 1 l3]] =
  (bif decide (x0 = x2) then
   bindC (ih.call 13 [DV.list true false 1 l1, DV.list true false 1 l3]) fun r1 =>
    (bif isRes [{ ag := false, css := [CS.bool] }] r1 then
     some (DV.bool (asB r1))
    else none)
  else some (DV.bool false)) := by kernel_rfl
theorem e24 (ih : VIh) (l0 : List DV) (l1 : List DV) (l2 : List DV) : callF vt1 ih 24 [DV.agg [DV.list true false 1 l0, DV.list true false 1 l1], DV.list true false 1 l2] =
  bindC (ih.call 52 [DV.int 0]) fun r0 =>
   (bif isRes [{ ag := true, css := [CS.int, CS.list 1, CS.int, CS.list 1] }] r0 then
    ih.at_ 24 0 (tblL [(1, DV.list true false 1 l2), (2, DV.ptr 0 0), (4, DV.ptr 1 0), (5, DV.ptr 2 0), (6, DV.nils), (7, DV.int 0)]) [.box [DV.list true false 1 l0, DV.list true false 1 l1], .box [DV.int 0, DV.nils], .box [DV.int (asI (cellOf r0 0)), DV.list false false 1 (asR (cellOf r0 1)), DV.int (asI (cellOf r0 2)),
  DV.list false false 1 (asR (cellOf r0 3))]]
   else none) := by kernel_rfl
theorem e24_0 (ih : VIh) (l0 : List DV) (x1 : Int) (l2 : List DV) (l3 : List DV) (x4 : Int) (x5 : Int) (l6 : List DV) (x7 : Int) (l8 : List DV) : atF vt1 ih 24 0 (tblL [(1, DV.list true false 1 l0), (2, DV.ptr 0 0), (4, DV.ptr 1 0), (5, DV.ptr 2 0), (6, DV.nils), (7, DV.int x1)]) [VB.box [DV.list true false 1 l2, DV.list true false 1 l3], VB.box [DV.int x4, DV.nils], VB.box [DV.int x5, DV.list false false 1 l6, DV.int x7, DV.list false false 1 l8]] =
  (bif decide (x1 < (↑l0.length : Int)) then
   ih.at_ 24 1 (tblL [(1, DV.list true false 1 l0), (2, DV.ptr 0 0), (4, DV.ptr 1 0), (5, DV.ptr 2 0), (6, DV.nils), (7, DV.int x1), (8, DV.int 0), (9, DV.int x1)]) [.box [DV.list true false 1 l2, DV.list true false 1 l3], .box [DV.int x4, DV.nils], .box [DV.int x5, DV.list false false 1 l6, DV.int x7, DV.list false false 1 l8]]
  else bindC (ih.call 63 [DV.list true false 4 []]) fun r1 =>
    (bif isRes [{ ag := true, css := [CS.int, CS.list 1] }] r1 then
     some (DV.agg [DV.int (asI (cellOf r1 0)), DV.list false false 1 (asR (cellOf r1 1))])
    else none)) := by kernel_rfl
theorem e24_1 (ih : VIh) (l0 : List DV) (x1 : Int) (x2 : Int) (x3 : Int) (l4 : List DV) (l5 : List DV) (x6 : Int) (x7 : Int) (l8 : List DV) (x9 : Int) (l10 : List DV) : atF vt1 ih 24 1 (tblL [(1, DV.list true false 1 l0), (2, DV.ptr 0 0), (4, DV.ptr 1 0), (5, DV.ptr 2 0), (6, DV.nils), (7, DV.int x1), (8, DV.int x2), (9, DV.int x3)]) [VB.box [DV.list true false 1 l4, DV.list true false 1 l5], VB.box [DV.int x6, DV.nils], VB.box [DV.int x7, DV.list false false 1 l8, DV.int x9, DV.list false false 1 l10]] =
  (bif decide (x3 < (↑l0.length : Int)) then
   (bif okR l0 x3 { ag := false, css := [CS.int] } then
    ih.at_ 24 1 (tblL [(1, DV.list true false 1 l0), (2, DV.ptr 0 0), (4, DV.ptr 1 0), (5, DV.ptr 2 0), (6, DV.nils), (7, DV.int x1), (8, DV.int (w64 (x2 + asI (l0.getD x3.toNat DV.undef)))), (9, DV.int (w64 (x3 + 1)))]) [.box [DV.list true false 1 l4, DV.list true false 1 l5], .box [DV.int x6, DV.nils], .box [DV.int x7, DV.list false false 1 l8, DV.int x9, DV.list false false 1 l10]]
   else none)
  else (bif okR l5 x1 { ag := false, css := [CS.int] } then
    bindC (ih.call 54 [DV.int x2, DV.int (asI (l5.getD x1.toNat DV.undef))]) fun r3 =>
     (bif isRes [{ ag := true, css := [CS.int, CS.list 1, CS.int, CS.list 1] }] r3 then
      bindC (ih.call 53 [DV.agg [DV.int x7, DV.list false false 1 l8, DV.int x9, DV.list false false 1 l10],
  DV.agg
    [DV.int (asI (cellOf r3 0)), DV.list false false 1 (asR (cellOf r3 1)), DV.int (asI (cellOf r3 2)),
      DV.list false false 1 (asR (cellOf r3 3))]]) fun r5 =>
       (bif isRes [{ ag := true, css := [CS.int, CS.list 1, CS.int, CS.list 1] }] r5 then
        ih.at_ 24 0 (tblL [(1, DV.list true false 1 l0), (2, DV.ptr 0 0), (4, DV.ptr 1 0), (5, DV.ptr 2 0), (6, DV.own 3), (7, DV.int (w64 (x1 + 1)))]) [.box [DV.list true false 1 l4, DV.list true false 1 l5], .box [DV.int x6, DV.nils], .box [DV.int (asI (cellOf r5 0)), DV.list false false 1 (asR (cellOf r5 1)), DV.int (asI (cellOf r5 2)),
  DV.list false false 1 (asR (cellOf r5 3))], .row true 4 ([DV.agg
    [DV.int (asI (cellOf r5 0)), DV.list false false 1 (asR (cellOf r5 1)), DV.int (asI (cellOf r5 2)),
      DV.list false false 1 (asR (cellOf r5 3))]])]
       else none)
     else none)
   else none)) := by kernel_rfl
theorem e24_0_1 (ih : VIh) (l0 : List DV) (x1 : Int) (l2 : List DV) (l3 : List DV) (x4 : Int) (x5 : Int) (l6 : List DV) (x7 : Int) (l8 : List DV) (l9 : List DV) : atF vt1 ih 24 0 (tblL [(1, DV.list true false 1 l0), (2, DV.ptr 0 0), (4, DV.ptr 1 0), (5, DV.ptr 2 0), (6, DV.own 3), (7, DV.int x1)]) [VB.box [DV.list true false 1 l2, DV.list true false 1 l3], VB.box [DV.int x4, DV.nils], VB.box [DV.int x5, DV.list false false 1 l6, DV.int x7, DV.list false false 1 l8], VB.row true 4 l9] =
  (bif decide (x1 < (↑l0.length : Int)) then
   ih.at_ 24 1 (tblL [(1, DV.list true false 1 l0), (2, DV.ptr 0 0), (4, DV.ptr 1 0), (5, DV.ptr 2 0), (6, DV.own 3), (7, DV.int x1), (8, DV.int 0), (9, DV.int x1)]) [.box [DV.list true false 1 l2, DV.list true false 1 l3], .box [DV.int x4, DV.nils], .box [DV.int x5, DV.list false false 1 l6, DV.int x7, DV.list false false 1 l8], .row true 4 (l9)]
  else bindC (ih.call 63 [DV.list true false 4 l9]) fun r1 =>
    (bif isRes [{ ag := true, css := [CS.int, CS.list 1] }] r1 then
     some (DV.agg [DV.int (asI (cellOf r1 0)), DV.list false false 1 (asR (cellOf r1 1))])
    else none)) := by kernel_rfl
theorem e24_1_1 (ih : VIh) (l0 : List DV) (x1 : Int) (x2 : Int) (x3 : Int) (l4 : List DV) (l5 : List DV) (x6 : Int) (x7 : Int) (l8 : List DV) (x9 : Int) (l10 : List DV) (l11 : List DV) : atF vt1 ih 24 1 (tblL [(1, DV.list true false 1 l0), (2, DV.ptr 0 0), (4, DV.ptr 1 0), (5, DV.ptr 2 0), (6, DV.own 3), (7, DV.int x1), (8, DV.int x2), (9, DV.int x3)]) [VB.box [DV.list true false 1 l4, DV.list true false 1 l5], VB.box [DV.int x6, DV.nils], VB.box [DV.int x7, DV.list false false 1 l8, DV.int x9, DV.list false false 1 l10], VB.row true 4 l11] =
  (bif decide (x3 < (↑l0.length : Int)) then
   (bif okR l0 x3 { ag := false, css := [CS.int] } then
    ih.at_ 24 1 (tblL [(1, DV.list true false 1 l0), (2, DV.ptr 0 0), (4, DV.ptr 1 0), (5, DV.ptr 2 0), (6, DV.own 3), (7, DV.int x1), (8, DV.int (w64 (x2 + asI (l0.getD x3.toNat DV.undef)))), (9, DV.int (w64 (x3 + 1)))]) [.box [DV.list true false 1 l4, DV.list true false 1 l5], .box [DV.int x6, DV.nils], .box [DV.int x7, DV.list false false 1 l8, DV.int x9, DV.list false false 1 l10], .row true 4 (l11)]
   else none)
  else (bif okR l5 x1 { ag := false, css := [CS.int] } then
    bindC (ih.call 54 [DV.int x2, DV.int (asI (l5.getD x1.toNat DV.undef))]) fun r3 =>
     (bif isRes [{ ag := true, css := [CS.int, CS.list 1, CS.int, CS.list 1] }] r3 then
      bindC (ih.call 53 [DV.agg [DV.int x7, DV.list false false 1 l8, DV.int x9, DV.list false false 1 l10],
  DV.agg
    [DV.int (asI (cellOf r3 0)), DV.list false false 1 (asR (cellOf r3 1)), DV.int (asI (cellOf r3 2)),
      DV.list false false 1 (asR (cellOf r3 3))]]) fun r5 =>
       (bif isRes [{ ag := true, css := [CS.int, CS.list 1, CS.int, CS.list 1] }] r5 then
        (bif lenOk l11
  [DV.agg
      [DV.int (asI (cellOf r5 0)), DV.list false false 1 (asR (cellOf r5 1)), DV.int (asI (cellOf r5 2)),
        DV.list false false 1 (asR (cellOf r5 3))]] then
         ih.at_ 24 0 (tblL [(1, DV.list true false 1 l0), (2, DV.ptr 0 0), (4, DV.ptr 1 0), (5, DV.ptr 2 0), (6, DV.own 3), (7, DV.int (w64 (x1 + 1)))]) [.box [DV.list true false 1 l4, DV.list true false 1 l5], .box [DV.int x6, DV.nils], .box [DV.int (asI (cellOf r5 0)), DV.list false false 1 (asR (cellOf r5 1)), DV.int (asI (cellOf r5 2)),
  DV.list false false 1 (asR (cellOf r5 3))], .row true 4 (l11 ++
  [DV.agg
      [DV.int (asI (cellOf r5 0)), DV.list false false 1 (asR (cellOf r5 1)), DV.int (asI (cellOf r5 2)),
        DV.list false false 1 (asR (cellOf r5 3))]])]
        else none)
       else none)
     else none)
   else none)) := by kernel_rfl
theorem e63 (ih : VIh) (l0 : List DV) : callF vt1 ih 63 [DV.list true false 4 l0] =
  bindC (ih.call 95 [DV.int 1]) fun r0 =>
   (bif isRes [{ ag := true, css := [CS.int, CS.list 1] }] r0 then
    ih.at_ 63 0 (tblL [(0, DV.list true false 4 l0), (2, DV.ptr 0 0), (3, DV.ptr 1 0), (4, DV.int 0)]) [.box [DV.int 0, DV.nils], .box [DV.int (asI (cellOf r0 0)), DV.list false false 1 (asR (cellOf r0 1))]]
   else none) := by kernel_rfl
theorem e63_0 (ih : VIh) (l0 : List DV) (x1 : Int) (x2 : Int) (x3 : Int) (l4 : List DV) : atF vt1 ih 63 0 (tblL [(0, DV.list true false 4 l0), (2, DV.ptr 0 0), (3, DV.ptr 1 0), (4, DV.int x1)]) [VB.box [DV.int x2, DV.nils], VB.box [DV.int x3, DV.list false false 1 l4]] =
  (bif decide (x1 < (↑l0.length : Int)) then
   (bif okR l0 x1 { ag := true, css := [CS.int, CS.list 1, CS.int, CS.list 1] } then
    bindC (ih.call 96 [DV.agg
    [DV.int (asI (cellOf (l0.getD x1.toNat DV.undef) 2)),
      DV.list false false 1 (asR (cellOf (l0.getD x1.toNat DV.undef) 3))],
  DV.agg [DV.int x3, DV.list false false 1 l4]]) fun r2 =>
     (bif isRes [{ ag := true, css := [CS.int, CS.list 1, CS.int, CS.list 1] }] r2 then
      bindC (ih.call 98 [DV.agg [DV.int x3, DV.list false false 1 l4],
  DV.agg [DV.int (asI (cellOf r2 0)), DV.list false false 1 (asR (cellOf r2 1))]]) fun r4 =>
       (bif isRes [{ ag := true, css := [CS.int, CS.list 1] }] r4 then
        ih.at_ 63 0 (tblL [(0, DV.list true false 4 l0), (2, DV.ptr 0 0), (3, DV.ptr 1 0), (4, DV.int (w64 (x1 + 1)))]) [.box [DV.int x2, DV.nils], .box [DV.int (asI (cellOf r4 0)), DV.list false false 1 (asR (cellOf r4 1))]]
       else none)
     else none)
   else none)
  else bindC (ih.call 99 [DV.agg [DV.int x3, DV.list false false 1 l4]]) fun r6 =>
    (bif isRes [{ ag := false, css := [CS.int] }, { ag := false, css := [CS.bool] }] r6 then
     ih.at_ 63 1 (tblL [(0, DV.list true false 4 l0), (2, DV.ptr 0 0), (5, DV.int (asI ((tupL r6).getD 0 DV.undef))), (7, DV.ptr 1 0), (8, DV.int 0)]) [.box [DV.int x2, DV.nils], .box [DV.int (asI ((tupL r6).getD 0 DV.undef)), DV.nils]]
    else none)) := by kernel_rfl
theorem e63_1 (ih : VIh) (l0 : List DV) (x1 : Int) (x2 : Int) (x3 : Int) (x4 : Int) : atF vt1 ih 63 1 (tblL [(0, DV.list true false 4 l0), (2, DV.ptr 0 0), (5, DV.int x1), (7, DV.ptr 1 0), (8, DV.int x2)]) [VB.box [DV.int x3, DV.nils], VB.box [DV.int x4, DV.nils]] =
  (bif decide (x2 < (↑l0.length : Int)) then
   (bif okR l0 x2 { ag := true, css := [CS.int, CS.list 1, CS.int, CS.list 1] } then
    bindC (ih.call 52 [DV.int x1]) fun r2 =>
     (bif isRes [{ ag := true, css := [CS.int, CS.list 1, CS.int, CS.list 1] }] r2 then
      bindC (ih.call 67 [DV.agg
    [DV.int (asI (cellOf (l0.getD x2.toNat DV.undef) 0)),
      DV.list false false 1 (asR (cellOf (l0.getD x2.toNat DV.undef) 1)),
      DV.int (asI (cellOf (l0.getD x2.toNat DV.undef) 2)),
      DV.list false false 1 (asR (cellOf (l0.getD x2.toNat DV.undef) 3))],
  DV.agg
    [DV.int (asI (cellOf r2 0)), DV.list false false 1 (asR (cellOf r2 1)), DV.int (asI (cellOf r2 2)),
      DV.list false false 1 (asR (cellOf r2 3))]]) fun r4 =>
       (bif isRes [{ ag := true, css := [CS.int, CS.list 1, CS.int, CS.list 1] }] r4 then
        bindC (ih.call 103 [DV.agg
    [DV.int (asI (cellOf r4 0)), DV.list false false 1 (asR (cellOf r4 1)), DV.int (asI (cellOf r4 2)),
      DV.list false false 1 (asR (cellOf r4 3))]]) fun r6 =>
         (bif isRes [{ ag := true, css := [CS.int, CS.list 1] }] r6 then
          bindC (ih.call 99 [DV.agg [DV.int (asI (cellOf r6 0)), DV.list false false 1 (asR (cellOf r6 1))]]) fun r8 =>
           (bif isRes [{ ag := false, css := [CS.int] }, { ag := false, css := [CS.bool] }] r8 then
            ih.at_ 63 1 (tblL [(0, DV.list true false 4 l0), (2, DV.ptr 0 0), (5, DV.int x1), (7, DV.ptr 1 0), (8, DV.int (w64 (x2 + 1)))]) [.box [DV.int x3, DV.nils], .box [DV.int x4, DV.own 2], .row true 1 ([DV.int (asI ((tupL r8).getD 0 DV.undef))])]
           else none)
         else none)
       else none)
     else none)
   else none)
  else some (DV.agg [DV.int x4, DV.list false false 1 []])) := by kernel_rfl
theorem e63_1_1 (ih : VIh) (l0 : List DV) (x1 : Int) (x2 : Int) (x3 : Int) (x4 : Int) (l5 : List DV) : atF vt1 ih 63 1 (tblL [(0, DV.list true false 4 l0), (2, DV.ptr 0 0), (5, DV.int x1), (7, DV.ptr 1 0), (8, DV.int x2)]) [VB.box [DV.int x3, DV.nils], VB.box [DV.int x4, DV.own 2], VB.row true 1 l5] =
  (bif decide (x2 < (↑l0.length : Int)) then
   (bif okR l0 x2 { ag := true, css := [CS.int, CS.list 1, CS.int, CS.list 1] } then
    bindC (ih.call 52 [DV.int x1]) fun r2 =>
     (bif isRes [{ ag := true, css := [CS.int, CS.list 1, CS.int, CS.list 1] }] r2 then
      bindC (ih.call 67 [DV.agg
    [DV.int (asI (cellOf (l0.getD x2.toNat DV.undef) 0)),
      DV.list false false 1 (asR (cellOf (l0.getD x2.toNat DV.undef) 1)),
      DV.int (asI (cellOf (l0.getD x2.toNat DV.undef) 2)),
      DV.list false false 1 (asR (cellOf (l0.getD x2.toNat DV.undef) 3))],
  DV.agg
    [DV.int (asI (cellOf r2 0)), DV.list false false 1 (asR (cellOf r2 1)), DV.int (asI (cellOf r2 2)),
      DV.list false false 1 (asR (cellOf r2 3))]]) fun r4 =>
       (bif isRes [{ ag := true, css := [CS.int, CS.list 1, CS.int, CS.list 1] }] r4 then
        bindC (ih.call 103 [DV.agg
    [DV.int (asI (cellOf r4 0)), DV.list false false 1 (asR (cellOf r4 1)), DV.int (asI (cellOf r4 2)),
      DV.list false false 1 (asR (cellOf r4 3))]]) fun r6 =>
         (bif isRes [{ ag := true, css := [CS.int, CS.list 1] }] r6 then
          bindC (ih.call 99 [DV.agg [DV.int (asI (cellOf r6 0)), DV.list false false 1 (asR (cellOf r6 1))]]) fun r8 =>
           (bif isRes [{ ag := false, css := [CS.int] }, { ag := false, css := [CS.bool] }] r8 then
            (bif lenOk l5 [DV.int (asI ((tupL r8).getD 0 DV.undef))] then
            ih.at_ 63 1 (tblL [(0, DV.list true false 4 l0), (2, DV.ptr 0 0), (5, DV.int x1), (7, DV.ptr 1 0), (8, DV.int (w64 (x2 + 1)))]) [.box [DV.int x3, DV.nils], .box [DV.int x4, DV.own 2], .row true 1 (l5 ++ [DV.int (asI ((tupL r8).getD 0 DV.undef))])]
            else none)
           else none)
         else none)
       else none)
     else none)
   else none)
  else some (DV.agg [DV.int x4, DV.list false false 1 l5])) := by kernel_rfl
theorem e26 (ih : VIh) (x0 : Int) (x1 : Int) : callF vt1 ih 26 [DV.agg [DV.int x0, DV.int x1]] =
  bindC (ih.call 64 [DV.agg [DV.int x0, DV.int x1]]) fun r0 =>
   (bif isRes [{ ag := false, css := [CS.bool] }] r0 then
    (bif !asB r0 then
     some (DV.int 3)
    else bindC (ih.call 50 [DV.int x0, DV.int (-100), DV.int 100]) fun r3 =>
      (bif isRes [{ ag := false, css := [CS.bool] }] r3 then
       (bif !asB r3 then
        some (DV.int 2)
       else (bif decide (100 < x1) then
         some (DV.int 2)
        else some (DV.int 0)))
      else none))
   else none) := by kernel_rfl
theorem e25 (ih : VIh) (x0 : Int) (x1 : Int) : callF vt1 ih 25 [DV.int x0, DV.int x1] =
  (bif !decide (x0 = 0) then
   some (DV.int x0)
  else some (DV.int x1)) := by kernel_rfl
theorem e27 (ih : VIh) (l0 : List DV) (l1 : List DV) (x2 : Int) (l3 : List DV) (x4 : Int) (l5 : List DV) : callF vt1 ih 27 [DV.agg [DV.list false false 1 l0, DV.list false false 1 l1],
  DV.agg [DV.int x2, DV.list false false 1 l3, DV.int x4, DV.list false false 1 l5]] =
  bindC (ih.call 52 [DV.int 1]) fun r0 =>
   (bif isRes [{ ag := true, css := [CS.int, CS.list 1, CS.int, CS.list 1] }] r0 then
    ih.at_ 27 0 (tblL [(2, DV.ptr 0 0), (3, DV.ptr 1 0), (4, DV.ptr 2 0), (6, DV.own 3), (7, DV.int 0)]) [.box [DV.list false false 1 l0, DV.list false false 1 l1], .box [DV.int x2, DV.list false false 1 l3, DV.int x4, DV.list false false 1 l5], .box [DV.int 0, DV.nils], .row false 4 ([DV.agg
    [DV.int (asI (cellOf r0 0)), DV.list false false 1 (asR (cellOf r0 1)), DV.int (asI (cellOf r0 2)),
      DV.list false false 1 (asR (cellOf r0 3))]])]
   else none) := by kernel_rfl
theorem e27_0 (ih : VIh) (x0 : Int) (l1 : List DV) (l2 : List DV) (x3 : Int) (l4 : List DV) (x5 : Int) (l6 : List DV) (x7 : Int) (l8 : List DV) : atF vt1 ih 27 0 (tblL [(2, DV.ptr 0 0), (3, DV.ptr 1 0), (4, DV.ptr 2 0), (6, DV.own 3), (7, DV.int x0)]) [VB.box [DV.list false false 1 l1, DV.list false false 1 l2], VB.box [DV.int x3, DV.list false false 1 l4, DV.int x5, DV.list false false 1 l6], VB.box [DV.int x7, DV.nils], VB.row false 4 l8] =
  (bif decide (w64 (x0 + 1) < (↑l1.length : Int)) then
   bindC (ih.call 66 [DV.agg [DV.list true false 1 l1, DV.list true false 1 l2], DV.list true false 4 l8, DV.int x0]) fun r1 =>
    (bif isRes [{ ag := true, css := [CS.int, CS.list 1, CS.int, CS.list 1] }] r1 then
     (bif okR l1 x0 { ag := false, css := [CS.int] } then
      bindC (ih.call 52 [DV.int (asI (l1.getD x0.toNat DV.undef))]) fun r4 =>
       (bif isRes [{ ag := true, css := [CS.int, CS.list 1, CS.int, CS.list 1] }] r4 then
        bindC (ih.call 67 [DV.agg [DV.int x3, DV.list false false 1 l4, DV.int x5, DV.list false false 1 l6],
  DV.agg
    [DV.int (asI (cellOf r4 0)), DV.list false false 1 (asR (cellOf r4 1)), DV.int (asI (cellOf r4 2)),
      DV.list false false 1 (asR (cellOf r4 3))]]) fun r6 =>
         (bif isRes [{ ag := true, css := [CS.int, CS.list 1, CS.int, CS.list 1] }] r6 then
          (bif inR x0 l8 then
           (bif isRow { ag := true, css := [CS.int, CS.list 1, CS.int, CS.list 1] } (l8.getD x0.toNat DV.undef) then
            bindC (ih.call 67 [DV.agg
    [DV.int (asI (cellOf r6 0)), DV.list false false 1 (asR (cellOf r6 1)), DV.int (asI (cellOf r6 2)),
      DV.list false false 1 (asR (cellOf r6 3))],
  DV.agg
    [DV.int (asI (cellOf (l8.getD x0.toNat DV.undef) 0)),
      DV.list false false 1 (asR (cellOf (l8.getD x0.toNat DV.undef) 1)),
      DV.int (asI (cellOf (l8.getD x0.toNat DV.undef) 2)),
      DV.list false false 1 (asR (cellOf (l8.getD x0.toNat DV.undef) 3))]]) fun r10 =>
            (bif isRes [{ ag := true, css := [CS.int, CS.list 1, CS.int, CS.list 1] }] r10 then
            bindC (ih.call 65 [DV.agg
    [DV.int (asI (cellOf r1 0)), DV.list false false 1 (asR (cellOf r1 1)), DV.int (asI (cellOf r1 2)),
      DV.list false false 1 (asR (cellOf r1 3))],
  DV.agg
    [DV.int (asI (cellOf r10 0)), DV.list false false 1 (asR (cellOf r10 1)), DV.int (asI (cellOf r10 2)),
      DV.list false false 1 (asR (cellOf r10 3))]]) fun r12 =>
            (bif isRes [{ ag := true, css := [CS.int, CS.list 1, CS.int, CS.list 1] }] r12 then
            (bif inR x0 l8 then
            (bif isRow { ag := true, css := [CS.int, CS.list 1, CS.int, CS.list 1] } (l8.getD x0.toNat DV.undef) then
            (bif okR l2 (w64 (x0 + 1)) { ag := false, css := [CS.int] } then
            bindC (ih.call 52 [DV.int (asI (l2.getD (w64 (x0 + 1)).toNat DV.undef))]) fun r17 =>
            (bif isRes [{ ag := true, css := [CS.int, CS.list 1, CS.int, CS.list 1] }] r17 then
            bindC (ih.call 68 [DV.agg
    [DV.int (asI (cellOf r12 0)), DV.list false false 1 (asR (cellOf r12 1)), DV.int (asI (cellOf r12 2)),
      DV.list false false 1 (asR (cellOf r12 3))],
  DV.agg
    [DV.int (asI (cellOf r17 0)), DV.list false false 1 (asR (cellOf r17 1)), DV.int (asI (cellOf r17 2)),
      DV.list false false 1 (asR (cellOf r17 3))]]) fun r19 =>
            (bif isRes [{ ag := true, css := [CS.int, CS.list 1, CS.int, CS.list 1] }] r19 then
            bindC (ih.call 53 [DV.agg
    [DV.int (asI (cellOf (l8.getD x0.toNat DV.undef) 0)),
      DV.list false false 1 (asR (cellOf (l8.getD x0.toNat DV.undef) 1)),
      DV.int (asI (cellOf (l8.getD x0.toNat DV.undef) 2)),
      DV.list false false 1 (asR (cellOf (l8.getD x0.toNat DV.undef) 3))],
  DV.agg
    [DV.int (asI (cellOf r19 0)), DV.list false false 1 (asR (cellOf r19 1)), DV.int (asI (cellOf r19 2)),
      DV.list false false 1 (asR (cellOf r19 3))]]) fun r21 =>
            (bif isRes [{ ag := true, css := [CS.int, CS.list 1, CS.int, CS.list 1] }] r21 then
            (bif lenOk l8
  [DV.agg
      [DV.int (asI (cellOf r21 0)), DV.list false false 1 (asR (cellOf r21 1)), DV.int (asI (cellOf r21 2)),
        DV.list false false 1 (asR (cellOf r21 3))]] then
            ih.at_ 27 0 (tblL [(2, DV.ptr 0 0), (3, DV.ptr 1 0), (4, DV.ptr 2 0), (6, DV.own 3), (7, DV.int (w64 (x0 + 1)))]) [.box [DV.list false false 1 l1, DV.list false false 1 l2], .box [DV.int x3, DV.list false false 1 l4, DV.int x5, DV.list false false 1 l6], .box [DV.int x7, DV.nils], .row false 4 (l8 ++
  [DV.agg
      [DV.int (asI (cellOf r21 0)), DV.list false false 1 (asR (cellOf r21 1)), DV.int (asI (cellOf r21 2)),
        DV.list false false 1 (asR (cellOf r21 3))]])]
            else none)
            else none)
            else none)
            else none)
            else none)
            else none)
            else none)
            else none)
            else none)
           else none)
          else none)
         else none)
       else none)
     else none)
    else none)
  else bindC (ih.call 66 [DV.agg [DV.list true false 1 l1, DV.list true false 1 l2], DV.list true false 4 l8,
  DV.int (w64 ((↑l1.length : Int) - 1))]) fun r24 =>
    (bif isRes [{ ag := true, css := [CS.int, CS.list 1, CS.int, CS.list 1] }] r24 then
     (bif okR l1 (w64 ((↑l1.length : Int) - 1)) { ag := false, css := [CS.int] } then
      bindC (ih.call 52 [DV.int (asI (l1.getD (w64 ((↑l1.length : Int) - 1)).toNat DV.undef))]) fun r27 =>
       (bif isRes [{ ag := true, css := [CS.int, CS.list 1, CS.int, CS.list 1] }] r27 then
        bindC (ih.call 67 [DV.agg [DV.int x3, DV.list false false 1 l4, DV.int x5, DV.list false false 1 l6],
  DV.agg
    [DV.int (asI (cellOf r27 0)), DV.list false false 1 (asR (cellOf r27 1)), DV.int (asI (cellOf r27 2)),
      DV.list false false 1 (asR (cellOf r27 3))]]) fun r29 =>
         (bif isRes [{ ag := true, css := [CS.int, CS.list 1, CS.int, CS.list 1] }] r29 then
          (bif inR (w64 ((↑l1.length : Int) - 1)) l8 then
           (bif isRow { ag := true, css := [CS.int, CS.list 1, CS.int, CS.list 1] }
  (l8.getD (w64 ((↑l1.length : Int) - 1)).toNat DV.undef) then
            bindC (ih.call 67 [DV.agg
    [DV.int (asI (cellOf r29 0)), DV.list false false 1 (asR (cellOf r29 1)), DV.int (asI (cellOf r29 2)),
      DV.list false false 1 (asR (cellOf r29 3))],
  DV.agg
    [DV.int (asI (cellOf (l8.getD (w64 ((↑l1.length : Int) - 1)).toNat DV.undef) 0)),
      DV.list false false 1 (asR (cellOf (l8.getD (w64 ((↑l1.length : Int) - 1)).toNat DV.undef) 1)),
      DV.int (asI (cellOf (l8.getD (w64 ((↑l1.length : Int) - 1)).toNat DV.undef) 2)),
      DV.list false false 1 (asR (cellOf (l8.getD (w64 ((↑l1.length : Int) - 1)).toNat DV.undef) 3))]]) fun r33 =>
            (bif isRes [{ ag := true, css := [CS.int, CS.list 1, CS.int, CS.list 1] }] r33 then
            bindC (ih.call 65 [DV.agg
    [DV.int (asI (cellOf r24 0)), DV.list false false 1 (asR (cellOf r24 1)), DV.int (asI (cellOf r24 2)),
      DV.list false false 1 (asR (cellOf r24 3))],
  DV.agg
    [DV.int (asI (cellOf r33 0)), DV.list false false 1 (asR (cellOf r33 1)), DV.int (asI (cellOf r33 2)),
      DV.list false false 1 (asR (cellOf r33 3))]]) fun r35 =>
            (bif isRes [{ ag := true, css := [CS.int, CS.list 1, CS.int, CS.list 1] }] r35 then
            bindC (ih.call 63 [DV.list true false 4 l8]) fun r37 =>
            (bif isRes [{ ag := true, css := [CS.int, CS.list 1] }] r37 then
            bindC (ih.call 69 [DV.agg
    [DV.int (asI (cellOf r35 0)), DV.list false false 1 (asR (cellOf r35 1)), DV.int (asI (cellOf r35 2)),
      DV.list false false 1 (asR (cellOf r35 3))]]) fun r39 =>
            (bif isRes [{ ag := false, css := [CS.int] }] r39 then
            some (DV.tup [DV.agg [DV.int (asI (cellOf r37 0)), DV.list false false 1 (asR (cellOf r37 1))], DV.int (asI r39)])
            else none)
            else none)
            else none)
            else none)
           else none)
          else none)
         else none)
       else none)
     else none)
    else none)) := by kernel_rfl
theorem e66 (ih : VIh) (l0 : List DV) (l1 : List DV) (l2 : List DV) (x3 : Int) : callF vt1 ih 66 [DV.agg [DV.list true false 1 l0, DV.list true false 1 l1], DV.list true false 4 l2, DV.int x3] =
  (bif okR l2 x3 { ag := true, css := [CS.int, CS.list 1, CS.int, CS.list 1] } then
   (bif decide (0 < x3) then
    (bif okR l2 x3 { ag := true, css := [CS.int, CS.list 1, CS.int, CS.list 1] } then
     (bif okR l2 (w64 (x3 - 1)) { ag := true, css := [CS.int, CS.list 1, CS.int, CS.list 1] } then
      bindC (ih.call 65 [DV.agg
    [DV.int (asI (cellOf (l2.getD x3.toNat DV.undef) 0)),
      DV.list false false 1 (asR (cellOf (l2.getD x3.toNat DV.undef) 1)),
      DV.int (asI (cellOf (l2.getD x3.toNat DV.undef) 2)),
      DV.list false false 1 (asR (cellOf (l2.getD x3.toNat DV.undef) 3))],
  DV.agg
    [DV.int (asI (cellOf (l2.getD (w64 (x3 - 1)).toNat DV.undef) 0)),
      DV.list false false 1 (asR (cellOf (l2.getD (w64 (x3 - 1)).toNat DV.undef) 1)),
      DV.int (asI (cellOf (l2.getD (w64 (x3 - 1)).toNat DV.undef) 2)),
      DV.list false false 1 (asR (cellOf (l2.getD (w64 (x3 - 1)).toNat DV.undef) 3))]]) fun r4 =>
       (bif isRes [{ ag := true, css := [CS.int, CS.list 1, CS.int, CS.list 1] }] r4 then
        (bif okR l1 x3 { ag := false, css := [CS.int] } then
         bindC (ih.call 52 [DV.int (asI (l1.getD x3.toNat DV.undef))]) fun r7 =>
          (bif isRes [{ ag := true, css := [CS.int, CS.list 1, CS.int, CS.list 1] }] r7 then
           bindC (ih.call 67 [DV.agg
    [DV.int (asI (cellOf r7 0)), DV.list false false 1 (asR (cellOf r7 1)), DV.int (asI (cellOf r7 2)),
      DV.list false false 1 (asR (cellOf r7 3))],
  DV.agg
    [DV.int (asI (cellOf r4 0)), DV.list false false 1 (asR (cellOf r4 1)), DV.int (asI (cellOf r4 2)),
      DV.list false false 1 (asR (cellOf r4 3))]]) fun r9 =>
            (bif isRes [{ ag := true, css := [CS.int, CS.list 1, CS.int, CS.list 1] }] r9 then
            some (DV.agg
  [DV.int (asI (cellOf r9 0)), DV.list false false 1 (asR (cellOf r9 1)), DV.int (asI (cellOf r9 2)),
    DV.list false false 1 (asR (cellOf r9 3))])
            else none)
          else none)
        else none)
       else none)
     else none)
    else none)
   else (bif okR l1 x3 { ag := false, css := [CS.int] } then
     bindC (ih.call 52 [DV.int (asI (l1.getD x3.toNat DV.undef))]) fun r12 =>
      (bif isRes [{ ag := true, css := [CS.int, CS.list 1, CS.int, CS.list 1] }] r12 then
       bindC (ih.call 67 [DV.agg
    [DV.int (asI (cellOf r12 0)), DV.list false false 1 (asR (cellOf r12 1)), DV.int (asI (cellOf r12 2)),
      DV.list false false 1 (asR (cellOf r12 3))],
  DV.agg
    [DV.int (asI (cellOf (l2.getD x3.toNat DV.undef) 0)),
      DV.list false false 1 (asR (cellOf (l2.getD x3.toNat DV.undef) 1)),
      DV.int (asI (cellOf (l2.getD x3.toNat DV.undef) 2)),
      DV.list false false 1 (asR (cellOf (l2.getD x3.toNat DV.undef) 3))]]) fun r14 =>
        (bif isRes [{ ag := true, css := [CS.int, CS.list 1, CS.int, CS.list 1] }] r14 then
         some (DV.agg
  [DV.int (asI (cellOf r14 0)), DV.list false false 1 (asR (cellOf r14 1)), DV.int (asI (cellOf r14 2)),
    DV.list false false 1 (asR (cellOf r14 3))])
        else none)
      else none)
    else none))
  else none) := by kernel_rfl
theorem e4 (ih : VIh) (l0 : List DV) (l1 : List DV) (x2 : Int) (x3 : Int) (l4 : List DV) (l5 : List DV) : callF vt1 ih 4 [DV.agg [DV.list false false 1 l0, DV.list false false 1 l1], DV.agg [DV.int x2, DV.int x3],
  DV.agg [DV.list false false 1 l4, DV.list false false 1 l5]] =
  bindC (ih.call 6 []) fun r0 =>
   (bif isRes [{ ag := false, css := [CS.bool] }] r0 then
    (bif !asB r0 then
     some (DV.bool false)
    else bindC (ih.call 7 [DV.agg [DV.list true false 1 l0, DV.list true false 1 l1]]) fun r3 =>
      (bif isRes [{ ag := false, css := [CS.bool] }] r3 then
       (bif !asB r3 then
        some (DV.bool true)
       else (bif decide (6 < (↑l4.length : Int)) then
         some (DV.bool true)
        else (bif decide (62 < (↑l5.length : Int)) then
          some (DV.bool true)
         else bindC (ih.call 9 [DV.agg [DV.list true false 1 l0, DV.list true false 1 l1]]) fun r8 =>
           (bif isRes [{ ag := true, css := [CS.list 1, CS.list 1] }] r8 then
            bindC (ih.call 17 [DV.list true false 1 l4]) fun r10 =>
            (bif isRes [{ ag := false, css := [CS.list 1] }] r10 then
            bindC (ih.call 16 [DV.agg [DV.list false false 1 (asR (cellOf r8 0)), DV.list false false 1 (asR (cellOf r8 1))],
  DV.list false false 1 (asR r10)]) fun r12 =>
            (bif isRes [{ ag := true, css := [CS.int, CS.list 1] }, { ag := false, css := [CS.int] }] r12 then
            bindC (ih.call 9 [DV.agg [DV.list true false 1 l0, DV.list true false 1 l1]]) fun r14 =>
            (bif isRes [{ ag := true, css := [CS.list 1, CS.list 1] }] r14 then
            bindC (ih.call 18 [DV.agg [DV.list false false 1 (asR (cellOf r14 0)), DV.list false false 1 (asR (cellOf r14 1))],
  DV.agg [DV.int x2, DV.int x3]]) fun r16 =>
            (bif isRes [{ ag := true, css := [CS.int, CS.list 1] }, { ag := false, css := [CS.int] }, { ag := false, css := [CS.int] }]
  r16 then
            bindC (ih.call 17 [DV.list true false 1 l5]) fun r18 =>
            (bif isRes [{ ag := false, css := [CS.list 1] }] r18 then
            bindC (ih.call 19 [DV.list true false 1 (asR r18)]) fun r20 =>
            (bif isRes [{ ag := false, css := [CS.int] }, { ag := false, css := [CS.int] }] r20 then
            (bif decide (60 < (↑l5.length : Int)) then
            (bif !decide (asI ((tupL r20).getD 1 DV.undef) = 8) then
            some (DV.bool false)
            else (bif !decide (asI ((tupL r20).getD 0 DV.undef) = 0) then
            some (DV.bool false)
            else bindC (ih.call 21 [DV.agg [DV.list true false 1 l0, DV.list true false 1 l1]]) fun r25 =>
            (bif isRes [{ ag := false, css := [CS.int] }] r25 then
            (bif decide (asI r25 = 0) then
            bindC (ih.call 22 [DV.agg [DV.list true false 1 l0, DV.list true false 1 l1], DV.list true false 1 l4]) fun r28 =>
            (bif isRes [{ ag := false, css := [CS.int] }] r28 then
            (bif !decide (asI r28 = 0) then
            (bif !decide (asI ((tupL r12).getD 1 DV.undef) = asI r28) then
            some (DV.bool false)
            else bindC (ih.call 23 [DV.agg
    [DV.int (asI (cellOf ((tupL r12).getD 0 DV.undef) 0)),
      DV.list true false 1 (asR (cellOf ((tupL r12).getD 0 DV.undef) 1))],
  DV.agg [DV.int 0, DV.list true false 1 []]]) fun r32 =>
            (bif isRes [{ ag := false, css := [CS.bool] }] r32 then
            (bif !asB r32 then
            some (DV.bool false)
            else (bif decide (asI r28 = 0) then
            (bif !decide (asI ((tupL r12).getD 1 DV.undef) = 0) then
            some (DV.bool false)
            else bindC (ih.call 24 [DV.agg [DV.list true false 1 l0, DV.list true false 1 l1], DV.list true false 1 l4]) fun r37 =>
            (bif isRes [{ ag := true, css := [CS.int, CS.list 1] }] r37 then
            bindC (ih.call 23 [DV.agg
    [DV.int (asI (cellOf ((tupL r12).getD 0 DV.undef) 0)),
      DV.list true false 1 (asR (cellOf ((tupL r12).getD 0 DV.undef) 1))],
  DV.agg [DV.int (asI (cellOf r37 0)), DV.list true false 1 (asR (cellOf r37 1))]]) fun r39 =>
            (bif isRes [{ ag := false, css := [CS.bool] }] r39 then
            (bif !asB r39 then
            some (DV.bool false)
            else bindC (ih.call 26 [DV.agg [DV.int x2, DV.int x3]]) fun r42 =>
            (bif isRes [{ ag := false, css := [CS.int] }] r42 then
            bindC (ih.call 25 [DV.int (asI r25), DV.int (asI r42)]) fun r44 =>
            (bif isRes [{ ag := false, css := [CS.int] }] r44 then
            (bif !decide (asI r44 = 0) then
            (bif decide (asI ((tupL r16).getD 2 DV.undef) = asI r44) then
            (bif decide (asI ((tupL r16).getD 1 DV.undef) = 0) then
            bindC (ih.call 23 [DV.agg
    [DV.int (asI (cellOf ((tupL r16).getD 0 DV.undef) 0)),
      DV.list true false 1 (asR (cellOf ((tupL r16).getD 0 DV.undef) 1))],
  DV.agg [DV.int 0, DV.list true false 1 []]]) fun r49 =>
            (bif isRes [{ ag := false, css := [CS.bool] }] r49 then
            some (DV.bool (asB r49))
            else none)
            else some (DV.bool false))
            else some (DV.bool false))
            else bindC (ih.call 28 [DV.agg [DV.int x2, DV.int x3]]) fun r51 =>
            (bif isRes [{ ag := true, css := [CS.int, CS.list 1, CS.int, CS.list 1] }] r51 then
            bindC (ih.call 27 [DV.agg [DV.list false false 1 l0, DV.list false false 1 l1],
  DV.agg
    [DV.int (asI (cellOf r51 0)), DV.list false false 1 (asR (cellOf r51 1)), DV.int (asI (cellOf r51 2)),
      DV.list false false 1 (asR (cellOf r51 3))]]) fun r53 =>
            (bif isRes [{ ag := true, css := [CS.int, CS.list 1] }, { ag := false, css := [CS.int] }] r53 then
            (bif decide (asI ((tupL r16).getD 2 DV.undef) = 0) then
            (bif decide (asI ((tupL r16).getD 1 DV.undef) = asI ((tupL r53).getD 1 DV.undef)) then
            bindC (ih.call 23 [DV.agg
    [DV.int (asI (cellOf ((tupL r16).getD 0 DV.undef) 0)),
      DV.list true false 1 (asR (cellOf ((tupL r16).getD 0 DV.undef) 1))],
  DV.agg
    [DV.int (asI (cellOf ((tupL r53).getD 0 DV.undef) 0)),
      DV.list true false 1 (asR (cellOf ((tupL r53).getD 0 DV.undef) 1))]]) fun r57 =>
            (bif isRes [{ ag := false, css := [CS.bool] }] r57 then
            some (DV.bool (asB r57))
            else none)
            else some (DV.bool false))
            else some (DV.bool false))
            else none)
            else none))
            else none)
            else none))
            else none)
            else none))
            else bindC (ih.call 26 [DV.agg [DV.int x2, DV.int x3]]) fun r59 =>
            (bif isRes [{ ag := false, css := [CS.int] }] r59 then
            bindC (ih.call 25 [DV.int (asI r25), DV.int (asI r59)]) fun r61 =>
            (bif isRes [{ ag := false, css := [CS.int] }] r61 then
            (bif !decide (asI r61 = 0) then
            (bif decide (asI ((tupL r16).getD 2 DV.undef) = asI r61) then
            (bif decide (asI ((tupL r16).getD 1 DV.undef) = 0) then
            bindC (ih.call 23 [DV.agg
    [DV.int (asI (cellOf ((tupL r16).getD 0 DV.undef) 0)),
      DV.list true false 1 (asR (cellOf ((tupL r16).getD 0 DV.undef) 1))],
  DV.agg [DV.int 0, DV.list true false 1 []]]) fun r66 =>
            (bif isRes [{ ag := false, css := [CS.bool] }] r66 then
            some (DV.bool (asB r66))
            else none)
            else some (DV.bool false))
            else some (DV.bool false))
            else bindC (ih.call 28 [DV.agg [DV.int x2, DV.int x3]]) fun r68 =>
            (bif isRes [{ ag := true, css := [CS.int, CS.list 1, CS.int, CS.list 1] }] r68 then
            bindC (ih.call 27 [DV.agg [DV.list false false 1 l0, DV.list false false 1 l1],
  DV.agg
    [DV.int (asI (cellOf r68 0)), DV.list false false 1 (asR (cellOf r68 1)), DV.int (asI (cellOf r68 2)),
      DV.list false false 1 (asR (cellOf r68 3))]]) fun r70 =>
            (bif isRes [{ ag := true, css := [CS.int, CS.list 1] }, { ag := false, css := [CS.int] }] r70 then
            (bif decide (asI ((tupL r16).getD 2 DV.undef) = 0) then
            (bif decide (asI ((tupL r16).getD 1 DV.undef) = asI ((tupL r70).getD 1 DV.undef)) then
            bindC (ih.call 23 [DV.agg
    [DV.int (asI (cellOf ((tupL r16).getD 0 DV.undef) 0)),
      DV.list true false 1 (asR (cellOf ((tupL r16).getD 0 DV.undef) 1))],
  DV.agg
    [DV.int (asI (cellOf ((tupL r70).getD 0 DV.undef) 0)),
      DV.list true false 1 (asR (cellOf ((tupL r70).getD 0 DV.undef) 1))]]) fun r74 =>
            (bif isRes [{ ag := false, css := [CS.bool] }] r74 then
            some (DV.bool (asB r74))
            else none)
            else some (DV.bool false))
            else some (DV.bool false))
            else none)
            else none))
            else none)
            else none)))
            else none))
            else (bif decide (asI r28 = 0) then
            (bif !decide (asI ((tupL r12).getD 1 DV.undef) = 0) then
            some (DV.bool false)
            else bindC (ih.call 24 [DV.agg [DV.list true false 1 l0, DV.list true false 1 l1], DV.list true false 1 l4]) fun r78 =>
            (bif isRes [{ ag := true, css := [CS.int, CS.list 1] }] r78 then
            bindC (ih.call 23 [DV.agg
    [DV.int (asI (cellOf ((tupL r12).getD 0 DV.undef) 0)),
      DV.list true false 1 (asR (cellOf ((tupL r12).getD 0 DV.undef) 1))],
  DV.agg [DV.int (asI (cellOf r78 0)), DV.list true false 1 (asR (cellOf r78 1))]]) fun r80 =>
            (bif isRes [{ ag := false, css := [CS.bool] }] r80 then
            (bif !asB r80 then
            some (DV.bool false)
            else bindC (ih.call 26 [DV.agg [DV.int x2, DV.int x3]]) fun r83 =>
            (bif isRes [{ ag := false, css := [CS.int] }] r83 then
            bindC (ih.call 25 [DV.int (asI r25), DV.int (asI r83)]) fun r85 =>
            (bif isRes [{ ag := false, css := [CS.int] }] r85 then
            (bif !decide (asI r85 = 0) then
            (bif decide (asI ((tupL r16).getD 2 DV.undef) = asI r85) then
            (bif decide (asI ((tupL r16).getD 1 DV.undef) = 0) then
            bindC (ih.call 23 [DV.agg
    [DV.int (asI (cellOf ((tupL r16).getD 0 DV.undef) 0)),
      DV.list true false 1 (asR (cellOf ((tupL r16).getD 0 DV.undef) 1))],
  DV.agg [DV.int 0, DV.list true false 1 []]]) fun r90 =>
            (bif isRes [{ ag := false, css := [CS.bool] }] r90 then
            some (DV.bool (asB r90))
            else none)
            else some (DV.bool false))
            else some (DV.bool false))
            else bindC (ih.call 28 [DV.agg [DV.int x2, DV.int x3]]) fun r92 =>
            (bif isRes [{ ag := true, css := [CS.int, CS.list 1, CS.int, CS.list 1] }] r92 then
            bindC (ih.call 27 [DV.agg [DV.list false false 1 l0, DV.list false false 1 l1],
  DV.agg
    [DV.int (asI (cellOf r92 0)), DV.list false false 1 (asR (cellOf r92 1)), DV.int (asI (cellOf r92 2)),
      DV.list false false 1 (asR (cellOf r92 3))]]) fun r94 =>
            (bif isRes [{ ag := true, css := [CS.int, CS.list 1] }, { ag := false, css := [CS.int] }] r94 then
            (bif decide (asI ((tupL r16).getD 2 DV.undef) = 0) then
            (bif decide (asI ((tupL r16).getD 1 DV.undef) = asI ((tupL r94).getD 1 DV.undef)) then
            bindC (ih.call 23 [DV.agg
    [DV.int (asI (cellOf ((tupL r16).getD 0 DV.undef) 0)),
      DV.list true false 1 (asR (cellOf ((tupL r16).getD 0 DV.undef) 1))],
  DV.agg
    [DV.int (asI (cellOf ((tupL r94).getD 0 DV.undef) 0)),
      DV.list true false 1 (asR (cellOf ((tupL r94).getD 0 DV.undef) 1))]]) fun r98 =>
            (bif isRes [{ ag := false, css := [CS.bool] }] r98 then
            some (DV.bool (asB r98))
            else none)
            else some (DV.bool false))
            else some (DV.bool false))
            else none)
            else none))
            else none)
            else none))
            else none)
            else none))
            else bindC (ih.call 26 [DV.agg [DV.int x2, DV.int x3]]) fun r100 =>
            (bif isRes [{ ag := false, css := [CS.int] }] r100 then
            bindC (ih.call 25 [DV.int (asI r25), DV.int (asI r100)]) fun r102 =>
            (bif isRes [{ ag := false, css := [CS.int] }] r102 then
            (bif !decide (asI r102 = 0) then
            (bif decide (asI ((tupL r16).getD 2 DV.undef) = asI r102) then
            (bif decide (asI ((tupL r16).getD 1 DV.undef) = 0) then
            bindC (ih.call 23 [DV.agg
    [DV.int (asI (cellOf ((tupL r16).getD 0 DV.undef) 0)),
      DV.list true false 1 (asR (cellOf ((tupL r16).getD 0 DV.undef) 1))],
  DV.agg [DV.int 0, DV.list true false 1 []]]) fun r107 =>
            (bif isRes [{ ag := false, css := [CS.bool] }] r107 then
            some (DV.bool (asB r107))
            else none)
            else some (DV.bool false))
            else some (DV.bool false))
            else bindC (ih.call 28 [DV.agg [DV.int x2, DV.int x3]]) fun r109 =>
            (bif isRes [{ ag := true, css := [CS.int, CS.list 1, CS.int, CS.list 1] }] r109 then
            bindC (ih.call 27 [DV.agg [DV.list false false 1 l0, DV.list false false 1 l1],
  DV.agg
    [DV.int (asI (cellOf r109 0)), DV.list false false 1 (asR (cellOf r109 1)), DV.int (asI (cellOf r109 2)),
      DV.list false false 1 (asR (cellOf r109 3))]]) fun r111 =>
            (bif isRes [{ ag := true, css := [CS.int, CS.list 1] }, { ag := false, css := [CS.int] }] r111 then
            (bif decide (asI ((tupL r16).getD 2 DV.undef) = 0) then
            (bif decide (asI ((tupL r16).getD 1 DV.undef) = asI ((tupL r111).getD 1 DV.undef)) then
            bindC (ih.call 23 [DV.agg
    [DV.int (asI (cellOf ((tupL r16).getD 0 DV.undef) 0)),
      DV.list true false 1 (asR (cellOf ((tupL r16).getD 0 DV.undef) 1))],
  DV.agg
    [DV.int (asI (cellOf ((tupL r111).getD 0 DV.undef) 0)),
      DV.list true false 1 (asR (cellOf ((tupL r111).getD 0 DV.undef) 1))]]) fun r115 =>
            (bif isRes [{ ag := false, css := [CS.bool] }] r115 then
            some (DV.bool (asB r115))
            else none)
            else some (DV.bool false))
            else some (DV.bool false))
            else none)
            else none))
            else none)
            else none)))
            else none)
            else (bif !decide (asI r25 = 0) then
            (bif !decide (asI ((tupL r12).getD 1 DV.undef) = asI r25) then
            some (DV.bool false)
            else bindC (ih.call 23 [DV.agg
    [DV.int (asI (cellOf ((tupL r12).getD 0 DV.undef) 0)),
      DV.list true false 1 (asR (cellOf ((tupL r12).getD 0 DV.undef) 1))],
  DV.agg [DV.int 0, DV.list true false 1 []]]) fun r119 =>
            (bif isRes [{ ag := false, css := [CS.bool] }] r119 then
            (bif !asB r119 then
            some (DV.bool false)
            else (bif decide (asI r25 = 0) then
            (bif !decide (asI ((tupL r12).getD 1 DV.undef) = 0) then
            some (DV.bool false)
            else bindC (ih.call 24 [DV.agg [DV.list true false 1 l0, DV.list true false 1 l1], DV.list true false 1 l4]) fun r124 =>
            (bif isRes [{ ag := true, css := [CS.int, CS.list 1] }] r124 then
            bindC (ih.call 23 [DV.agg
    [DV.int (asI (cellOf ((tupL r12).getD 0 DV.undef) 0)),
      DV.list true false 1 (asR (cellOf ((tupL r12).getD 0 DV.undef) 1))],
  DV.agg [DV.int (asI (cellOf r124 0)), DV.list true false 1 (asR (cellOf r124 1))]]) fun r126 =>
            (bif isRes [{ ag := false, css := [CS.bool] }] r126 then
            (bif !asB r126 then
            some (DV.bool false)
            else bindC (ih.call 26 [DV.agg [DV.int x2, DV.int x3]]) fun r129 =>
            (bif isRes [{ ag := false, css := [CS.int] }] r129 then
            bindC (ih.call 25 [DV.int (asI r25), DV.int (asI r129)]) fun r131 =>
            (bif isRes [{ ag := false, css := [CS.int] }] r131 then
            (bif !decide (asI r131 = 0) then
            (bif decide (asI ((tupL r16).getD 2 DV.undef) = asI r131) then
            (bif decide (asI ((tupL r16).getD 1 DV.undef) = 0) then
            bindC (ih.call 23 [DV.agg
    [DV.int (asI (cellOf ((tupL r16).getD 0 DV.undef) 0)),
      DV.list true false 1 (asR (cellOf ((tupL r16).getD 0 DV.undef) 1))],
  DV.agg [DV.int 0, DV.list true false 1 []]]) fun r136 =>
            (bif isRes [{ ag := false, css := [CS.bool] }] r136 then
            some (DV.bool (asB r136))
            else none)
            else some (DV.bool false))
            else some (DV.bool false))
            else bindC (ih.call 28 [DV.agg [DV.int x2, DV.int x3]]) fun r138 =>
            (bif isRes [{ ag := true, css := [CS.int, CS.list 1, CS.int, CS.list 1] }] r138 then
            bindC (ih.call 27 [DV.agg [DV.list false false 1 l0, DV.list false false 1 l1],
  DV.agg
    [DV.int (asI (cellOf r138 0)), DV.list false false 1 (asR (cellOf r138 1)), DV.int (asI (cellOf r138 2)),
      DV.list false false 1 (asR (cellOf r138 3))]]) fun r140 =>
            (bif isRes [{ ag := true, css := [CS.int, CS.list 1] }, { ag := false, css := [CS.int] }] r140 then
            (bif decide (asI ((tupL r16).getD 2 DV.undef) = 0) then
            (bif decide (asI ((tupL r16).getD 1 DV.undef) = asI ((tupL r140).getD 1 DV.undef)) then
            bindC (ih.call 23 [DV.agg
    [DV.int (asI (cellOf ((tupL r16).getD 0 DV.undef) 0)),
      DV.list true false 1 (asR (cellOf ((tupL r16).getD 0 DV.undef) 1))],
  DV.agg
    [DV.int (asI (cellOf ((tupL r140).getD 0 DV.undef) 0)),
      DV.list true false 1 (asR (cellOf ((tupL r140).getD 0 DV.undef) 1))]]) fun r144 =>
            (bif isRes [{ ag := false, css := [CS.bool] }] r144 then
            some (DV.bool (asB r144))
            else none)
            else some (DV.bool false))
            else some (DV.bool false))
            else none)
            else none))
            else none)
            else none))
            else none)
            else none))
            else bindC (ih.call 26 [DV.agg [DV.int x2, DV.int x3]]) fun r146 =>
            (bif isRes [{ ag := false, css := [CS.int] }] r146 then
            bindC (ih.call 25 [DV.int (asI r25), DV.int (asI r146)]) fun r148 =>
            (bif isRes [{ ag := false, css := [CS.int] }] r148 then
            (bif !decide (asI r148 = 0) then
            (bif decide (asI ((tupL r16).getD 2 DV.undef) = asI r148) then
            (bif decide (asI ((tupL r16).getD 1 DV.undef) = 0) then
            bindC (ih.call 23 [DV.agg
    [DV.int (asI (cellOf ((tupL r16).getD 0 DV.undef) 0)),
      DV.list true false 1 (asR (cellOf ((tupL r16).getD 0 DV.undef) 1))],
  DV.agg [DV.int 0, DV.list true false 1 []]]) fun r153 =>
            (bif isRes [{ ag := false, css := [CS.bool] }] r153 then
            some (DV.bool (asB r153))
            else none)
            else some (DV.bool false))
            else some (DV.bool false))
            else bindC (ih.call 28 [DV.agg [DV.int x2, DV.int x3]]) fun r155 =>
            (bif isRes [{ ag := true, css := [CS.int, CS.list 1, CS.int, CS.list 1] }] r155 then
            bindC (ih.call 27 [DV.agg [DV.list false false 1 l0, DV.list false false 1 l1],
  DV.agg
    [DV.int (asI (cellOf r155 0)), DV.list false false 1 (asR (cellOf r155 1)), DV.int (asI (cellOf r155 2)),
      DV.list false false 1 (asR (cellOf r155 3))]]) fun r157 =>
            (bif isRes [{ ag := true, css := [CS.int, CS.list 1] }, { ag := false, css := [CS.int] }] r157 then
            (bif decide (asI ((tupL r16).getD 2 DV.undef) = 0) then
            (bif decide (asI ((tupL r16).getD 1 DV.undef) = asI ((tupL r157).getD 1 DV.undef)) then
            bindC (ih.call 23 [DV.agg
    [DV.int (asI (cellOf ((tupL r16).getD 0 DV.undef) 0)),
      DV.list true false 1 (asR (cellOf ((tupL r16).getD 0 DV.undef) 1))],
  DV.agg
    [DV.int (asI (cellOf ((tupL r157).getD 0 DV.undef) 0)),
      DV.list true false 1 (asR (cellOf ((tupL r157).getD 0 DV.undef) 1))]]) fun r161 =>
            (bif isRes [{ ag := false, css := [CS.bool] }] r161 then
            some (DV.bool (asB r161))
            else none)
            else some (DV.bool false))
            else some (DV.bool false))
            else none)
            else none))
            else none)
            else none)))
            else none))
            else (bif decide (asI r25 = 0) then
            (bif !decide (asI ((tupL r12).getD 1 DV.undef) = 0) then
            some (DV.bool false)
            else bindC (ih.call 24 [DV.agg [DV.list true false 1 l0, DV.list true false 1 l1], DV.list true false 1 l4]) fun r165 =>
            (bif isRes [{ ag := true, css := [CS.int, CS.list 1] }] r165 then
            bindC (ih.call 23 [DV.agg
    [DV.int (asI (cellOf ((tupL r12).getD 0 DV.undef) 0)),
      DV.list true false 1 (asR (cellOf ((tupL r12).getD 0 DV.undef) 1))],
  DV.agg [DV.int (asI (cellOf r165 0)), DV.list true false 1 (asR (cellOf r165 1))]]) fun r167 =>
            (bif isRes [{ ag := false, css := [CS.bool] }] r167 then
            (bif !asB r167 then
            some (DV.bool false)
            else bindC (ih.call 26 [DV.agg [DV.int x2, DV.int x3]]) fun r170 =>
            (bif isRes [{ ag := false, css := [CS.int] }] r170 then
            bindC (ih.call 25 [DV.int (asI r25), DV.int (asI r170)]) fun r172 =>
            (bif isRes [{ ag := false, css := [CS.int] }] r172 then
            (bif !decide (asI r172 = 0) then
            (bif decide (asI ((tupL r16).getD 2 DV.undef) = asI r172) then
            (bif decide (asI ((tupL r16).getD 1 DV.undef) = 0) then
            bindC (ih.call 23 [DV.agg
    [DV.int (asI (cellOf ((tupL r16).getD 0 DV.undef) 0)),
      DV.list true false 1 (asR (cellOf ((tupL r16).getD 0 DV.undef) 1))],
  DV.agg [DV.int 0, DV.list true false 1 []]]) fun r177 =>
            (bif isRes [{ ag := false, css := [CS.bool] }] r177 then
            some (DV.bool (asB r177))
            else none)
            else some (DV.bool false))
            else some (DV.bool false))
            else bindC (ih.call 28 [DV.agg [DV.int x2, DV.int x3]]) fun r179 =>
            (bif isRes [{ ag := true, css := [CS.int, CS.list 1, CS.int, CS.list 1] }] r179 then
            bindC (ih.call 27 [DV.agg [DV.list false false 1 l0, DV.list false false 1 l1],
  DV.agg
    [DV.int (asI (cellOf r179 0)), DV.list false false 1 (asR (cellOf r179 1)), DV.int (asI (cellOf r179 2)),
      DV.list false false 1 (asR (cellOf r179 3))]]) fun r181 =>
            (bif isRes [{ ag := true, css := [CS.int, CS.list 1] }, { ag := false, css := [CS.int] }] r181 then
            (bif decide (asI ((tupL r16).getD 2 DV.undef) = 0) then
            (bif decide (asI ((tupL r16).getD 1 DV.undef) = asI ((tupL r181).getD 1 DV.undef)) then
            bindC (ih.call 23 [DV.agg
    [DV.int (asI (cellOf ((tupL r16).getD 0 DV.undef) 0)),
      DV.list true false 1 (asR (cellOf ((tupL r16).getD 0 DV.undef) 1))],
  DV.agg
    [DV.int (asI (cellOf ((tupL r181).getD 0 DV.undef) 0)),
      DV.list true false 1 (asR (cellOf ((tupL r181).getD 0 DV.undef) 1))]]) fun r185 =>
            (bif isRes [{ ag := false, css := [CS.bool] }] r185 then
            some (DV.bool (asB r185))
            else none)
            else some (DV.bool false))
            else some (DV.bool false))
            else none)
            else none))
            else none)
            else none))
            else none)
            else none))
            else bindC (ih.call 26 [DV.agg [DV.int x2, DV.int x3]]) fun r187 =>
            (bif isRes [{ ag := false, css := [CS.int] }] r187 then
            bindC (ih.call 25 [DV.int (asI r25), DV.int (asI r187)]) fun r189 =>
            (bif isRes [{ ag := false, css := [CS.int] }] r189 then
            (bif !decide (asI r189 = 0) then
            (bif decide (asI ((tupL r16).getD 2 DV.undef) = asI r189) then
            (bif decide (asI ((tupL r16).getD 1 DV.undef) = 0) then
            bindC (ih.call 23 [DV.agg
    [DV.int (asI (cellOf ((tupL r16).getD 0 DV.undef) 0)),
      DV.list true false 1 (asR (cellOf ((tupL r16).getD 0 DV.undef) 1))],
  DV.agg [DV.int 0, DV.list true false 1 []]]) fun r194 =>
            (bif isRes [{ ag := false, css := [CS.bool] }] r194 then
            some (DV.bool (asB r194))
            else none)
            else some (DV.bool false))
            else some (DV.bool false))
            else bindC (ih.call 28 [DV.agg [DV.int x2, DV.int x3]]) fun r196 =>
            (bif isRes [{ ag := true, css := [CS.int, CS.list 1, CS.int, CS.list 1] }] r196 then
            bindC (ih.call 27 [DV.agg [DV.list false false 1 l0, DV.list false false 1 l1],
  DV.agg
    [DV.int (asI (cellOf r196 0)), DV.list false false 1 (asR (cellOf r196 1)), DV.int (asI (cellOf r196 2)),
      DV.list false false 1 (asR (cellOf r196 3))]]) fun r198 =>
            (bif isRes [{ ag := true, css := [CS.int, CS.list 1] }, { ag := false, css := [CS.int] }] r198 then
            (bif decide (asI ((tupL r16).getD 2 DV.undef) = 0) then
            (bif decide (asI ((tupL r16).getD 1 DV.undef) = asI ((tupL r198).getD 1 DV.undef)) then
            bindC (ih.call 23 [DV.agg
    [DV.int (asI (cellOf ((tupL r16).getD 0 DV.undef) 0)),
      DV.list true false 1 (asR (cellOf ((tupL r16).getD 0 DV.undef) 1))],
  DV.agg
    [DV.int (asI (cellOf ((tupL r198).getD 0 DV.undef) 0)),
      DV.list true false 1 (asR (cellOf ((tupL r198).getD 0 DV.undef) 1))]]) fun r202 =>
            (bif isRes [{ ag := false, css := [CS.bool] }] r202 then
            some (DV.bool (asB r202))
            else none)
            else some (DV.bool false))
            else some (DV.bool false))
            else none)
            else none))
            else none)
            else none))))
            else none)))
            else (bif !decide (asI ((tupL r20).getD 1 DV.undef) = 0) then
            some (DV.bool false)
            else bindC (ih.call 20 [DV.list true false 1 l5]) fun r205 =>
            (bif isRes [{ ag := false, css := [CS.int] }] r205 then
            (bif !decide (asI ((tupL r20).getD 0 DV.undef) = asI r205) then
            some (DV.bool false)
            else bindC (ih.call 21 [DV.agg [DV.list true false 1 l0, DV.list true false 1 l1]]) fun r208 =>
            (bif isRes [{ ag := false, css := [CS.int] }] r208 then
            (bif decide (asI r208 = 0) then
            bindC (ih.call 22 [DV.agg [DV.list true false 1 l0, DV.list true false 1 l1], DV.list true false 1 l4]) fun r211 =>
            (bif isRes [{ ag := false, css := [CS.int] }] r211 then
            (bif !decide (asI r211 = 0) then
            (bif !decide (asI ((tupL r12).getD 1 DV.undef) = asI r211) then
            some (DV.bool false)
            else bindC (ih.call 23 [DV.agg
    [DV.int (asI (cellOf ((tupL r12).getD 0 DV.undef) 0)),
      DV.list true false 1 (asR (cellOf ((tupL r12).getD 0 DV.undef) 1))],
  DV.agg [DV.int 0, DV.list true false 1 []]]) fun r215 =>
            (bif isRes [{ ag := false, css := [CS.bool] }] r215 then
            (bif !asB r215 then
            some (DV.bool false)
            else (bif decide (asI r211 = 0) then
            (bif !decide (asI ((tupL r12).getD 1 DV.undef) = 0) then
            some (DV.bool false)
            else bindC (ih.call 24 [DV.agg [DV.list true false 1 l0, DV.list true false 1 l1], DV.list true false 1 l4]) fun r220 =>
            (bif isRes [{ ag := true, css := [CS.int, CS.list 1] }] r220 then
            bindC (ih.call 23 [DV.agg
    [DV.int (asI (cellOf ((tupL r12).getD 0 DV.undef) 0)),
      DV.list true false 1 (asR (cellOf ((tupL r12).getD 0 DV.undef) 1))],
  DV.agg [DV.int (asI (cellOf r220 0)), DV.list true false 1 (asR (cellOf r220 1))]]) fun r222 =>
            (bif isRes [{ ag := false, css := [CS.bool] }] r222 then
            (bif !asB r222 then
            some (DV.bool false)
            else bindC (ih.call 26 [DV.agg [DV.int x2, DV.int x3]]) fun r225 =>
            (bif isRes [{ ag := false, css := [CS.int] }] r225 then
            bindC (ih.call 25 [DV.int (asI r208), DV.int (asI r225)]) fun r227 =>
            (bif isRes [{ ag := false, css := [CS.int] }] r227 then
            (bif !decide (asI r227 = 0) then
            (bif decide (asI ((tupL r16).getD 2 DV.undef) = asI r227) then
            (bif decide (asI ((tupL r16).getD 1 DV.undef) = 0) then
            bindC (ih.call 23 [DV.agg
    [DV.int (asI (cellOf ((tupL r16).getD 0 DV.undef) 0)),
      DV.list true false 1 (asR (cellOf ((tupL r16).getD 0 DV.undef) 1))],
  DV.agg [DV.int 0, DV.list true false 1 []]]) fun r232 =>
            (bif isRes [{ ag := false, css := [CS.bool] }] r232 then
            some (DV.bool (asB r232))
            else none)
            else some (DV.bool false))
            else some (DV.bool false))
            else bindC (ih.call 28 [DV.agg [DV.int x2, DV.int x3]]) fun r234 =>
            (bif isRes [{ ag := true, css := [CS.int, CS.list 1, CS.int, CS.list 1] }] r234 then
            bindC (ih.call 27 [DV.agg [DV.list false false 1 l0, DV.list false false 1 l1],
  DV.agg
    [DV.int (asI (cellOf r234 0)), DV.list false false 1 (asR (cellOf r234 1)), DV.int (asI (cellOf r234 2)),
      DV.list false false 1 (asR (cellOf r234 3))]]) fun r236 =>
            (bif isRes [{ ag := true, css := [CS.int, CS.list 1] }, { ag := false, css := [CS.int] }] r236 then
            (bif decide (asI ((tupL r16).getD 2 DV.undef) = 0) then
            (bif decide (asI ((tupL r16).getD 1 DV.undef) = asI ((tupL r236).getD 1 DV.undef)) then
            bindC (ih.call 23 [DV.agg
    [DV.int (asI (cellOf ((tupL r16).getD 0 DV.undef) 0)),
      DV.list true false 1 (asR (cellOf ((tupL r16).getD 0 DV.undef) 1))],
  DV.agg
    [DV.int (asI (cellOf ((tupL r236).getD 0 DV.undef) 0)),
      DV.list true false 1 (asR (cellOf ((tupL r236).getD 0 DV.undef) 1))]]) fun r240 =>
            (bif isRes [{ ag := false, css := [CS.bool] }] r240 then
            some (DV.bool (asB r240))
            else none)
            else some (DV.bool false))
            else some (DV.bool false))
            else none)
            else none))
            else none)
            else none))
            else none)
            else none))
            else bindC (ih.call 26 [DV.agg [DV.int x2, DV.int x3]]) fun r242 =>
            (bif isRes [{ ag := false, css := [CS.int] }] r242 then
            bindC (ih.call 25 [DV.int (asI r208), DV.int (asI r242)]) fun r244 =>
            (bif isRes [{ ag := false, css := [CS.int] }] r244 then
            (bif !decide (asI r244 = 0) then
            (bif decide (asI ((tupL r16).getD 2 DV.undef) = asI r244) then
            (bif decide (asI ((tupL r16).getD 1 DV.undef) = 0) then
            bindC (ih.call 23 [DV.agg
    [DV.int (asI (cellOf ((tupL r16).getD 0 DV.undef) 0)),
      DV.list true false 1 (asR (cellOf ((tupL r16).getD 0 DV.undef) 1))],
  DV.agg [DV.int 0, DV.list true false 1 []]]) fun r249 =>
            (bif isRes [{ ag := false, css := [CS.bool] }] r249 then
            some (DV.bool (asB r249))
            else none)
            else some (DV.bool false))
            else some (DV.bool false))
            else bindC (ih.call 28 [DV.agg [DV.int x2, DV.int x3]]) fun r251 =>
            (bif isRes [{ ag := true, css := [CS.int, CS.list 1, CS.int, CS.list 1] }] r251 then
            bindC (ih.call 27 [DV.agg [DV.list false false 1 l0, DV.list false false 1 l1],
  DV.agg
    [DV.int (asI (cellOf r251 0)), DV.list false false 1 (asR (cellOf r251 1)), DV.int (asI (cellOf r251 2)),
      DV.list false false 1 (asR (cellOf r251 3))]]) fun r253 =>
            (bif isRes [{ ag := true, css := [CS.int, CS.list 1] }, { ag := false, css := [CS.int] }] r253 then
            (bif decide (asI ((tupL r16).getD 2 DV.undef) = 0) then
            (bif decide (asI ((tupL r16).getD 1 DV.undef) = asI ((tupL r253).getD 1 DV.undef)) then
            bindC (ih.call 23 [DV.agg
    [DV.int (asI (cellOf ((tupL r16).getD 0 DV.undef) 0)),
      DV.list true false 1 (asR (cellOf ((tupL r16).getD 0 DV.undef) 1))],
  DV.agg
    [DV.int (asI (cellOf ((tupL r253).getD 0 DV.undef) 0)),
      DV.list true false 1 (asR (cellOf ((tupL r253).getD 0 DV.undef) 1))]]) fun r257 =>
            (bif isRes [{ ag := false, css := [CS.bool] }] r257 then
            some (DV.bool (asB r257))
            else none)
            else some (DV.bool false))
            else some (DV.bool false))
            else none)
            else none))
            else none)
            else none)))
            else none))
            else (bif decide (asI r211 = 0) then
            (bif !decide (asI ((tupL r12).getD 1 DV.undef) = 0) then
            some (DV.bool false)
            else bindC (ih.call 24 [DV.agg [DV.list true false 1 l0, DV.list true false 1 l1], DV.list true false 1 l4]) fun r261 =>
            (bif isRes [{ ag := true, css := [CS.int, CS.list 1] }] r261 then
            bindC (ih.call 23 [DV.agg
    [DV.int (asI (cellOf ((tupL r12).getD 0 DV.undef) 0)),
      DV.list true false 1 (asR (cellOf ((tupL r12).getD 0 DV.undef) 1))],
  DV.agg [DV.int (asI (cellOf r261 0)), DV.list true false 1 (asR (cellOf r261 1))]]) fun r263 =>
            (bif isRes [{ ag := false, css := [CS.bool] }] r263 then
            (bif !asB r263 then
            some (DV.bool false)
            else bindC (ih.call 26 [DV.agg [DV.int x2, DV.int x3]]) fun r266 =>
            (bif isRes [{ ag := false, css := [CS.int] }] r266 then
            bindC (ih.call 25 [DV.int (asI r208), DV.int (asI r266)]) fun r268 =>
            (bif isRes [{ ag := false, css := [CS.int] }] r268 then
            (bif !decide (asI r268 = 0) then
            (bif decide (asI ((tupL r16).getD 2 DV.undef) = asI r268) then
            (bif decide (asI ((tupL r16).getD 1 DV.undef) = 0) then
            bindC (ih.call 23 [DV.agg
    [DV.int (asI (cellOf ((tupL r16).getD 0 DV.undef) 0)),
      DV.list true false 1 (asR (cellOf ((tupL r16).getD 0 DV.undef) 1))],
  DV.agg [DV.int 0, DV.list true false 1 []]]) fun r273 =>
            (bif isRes [{ ag := false, css := [CS.bool] }] r273 then
            some (DV.bool (asB r273))
            else none)
            else some (DV.bool false))
            else some (DV.bool false))
            else bindC (ih.call 28 [DV.agg [DV.int x2, DV.int x3]]) fun r275 =>
            (bif isRes [{ ag := true, css := [CS.int, CS.list 1, CS.int, CS.list 1] }] r275 then
            bindC (ih.call 27 [DV.agg [DV.list false false 1 l0, DV.list false false 1 l1],
  DV.agg
    [DV.int (asI (cellOf r275 0)), DV.list false false 1 (asR (cellOf r275 1)), DV.int (asI (cellOf r275 2)),
      DV.list false false 1 (asR (cellOf r275 3))]]) fun r277 =>
            (bif isRes [{ ag := true, css := [CS.int, CS.list 1] }, { ag := false, css := [CS.int] }] r277 then
            (bif decide (asI ((tupL r16).getD 2 DV.undef) = 0) then
            (bif decide (asI ((tupL r16).getD 1 DV.undef) = asI ((tupL r277).getD 1 DV.undef)) then
            bindC (ih.call 23 [DV.agg
    [DV.int (asI (cellOf ((tupL r16).getD 0 DV.undef) 0)),
      DV.list true false 1 (asR (cellOf ((tupL r16).getD 0 DV.undef) 1))],
  DV.agg
    [DV.int (asI (cellOf ((tupL r277).getD 0 DV.undef) 0)),
      DV.list true false 1 (asR (cellOf ((tupL r277).getD 0 DV.undef) 1))]]) fun r281 =>
            (bif isRes [{ ag := false, css := [CS.bool] }] r281 then
            some (DV.bool (asB r281))
            else none)
            else some (DV.bool false))
            else some (DV.bool false))
            else none)
            else none))
            else none)
            else none))
            else none)
            else none))
            else bindC (ih.call 26 [DV.agg [DV.int x2, DV.int x3]]) fun r283 =>
            (bif isRes [{ ag := false, css := [CS.int] }] r283 then
            bindC (ih.call 25 [DV.int (asI r208), DV.int (asI r283)]) fun r285 =>
            (bif isRes [{ ag := false, css := [CS.int] }] r285 then
            (bif !decide (asI r285 = 0) then
            (bif decide (asI ((tupL r16).getD 2 DV.undef) = asI r285) then
            (bif decide (asI ((tupL r16).getD 1 DV.undef) = 0) then
            bindC (ih.call 23 [DV.agg
    [DV.int (asI (cellOf ((tupL r16).getD 0 DV.undef) 0)),
      DV.list true false 1 (asR (cellOf ((tupL r16).getD 0 DV.undef) 1))],
  DV.agg [DV.int 0, DV.list true false 1 []]]) fun r290 =>
            (bif isRes [{ ag := false, css := [CS.bool] }] r290 then
            some (DV.bool (asB r290))
            else none)
            else some (DV.bool false))
            else some (DV.bool false))
            else bindC (ih.call 28 [DV.agg [DV.int x2, DV.int x3]]) fun r292 =>
            (bif isRes [{ ag := true, css := [CS.int, CS.list 1, CS.int, CS.list 1] }] r292 then
            bindC (ih.call 27 [DV.agg [DV.list false false 1 l0, DV.list false false 1 l1],
  DV.agg
    [DV.int (asI (cellOf r292 0)), DV.list false false 1 (asR (cellOf r292 1)), DV.int (asI (cellOf r292 2)),
      DV.list false false 1 (asR (cellOf r292 3))]]) fun r294 =>
            (bif isRes [{ ag := true, css := [CS.int, CS.list 1] }, { ag := false, css := [CS.int] }] r294 then
            (bif decide (asI ((tupL r16).getD 2 DV.undef) = 0) then
            (bif decide (asI ((tupL r16).getD 1 DV.undef) = asI ((tupL r294).getD 1 DV.undef)) then
            bindC (ih.call 23 [DV.agg
    [DV.int (asI (cellOf ((tupL r16).getD 0 DV.undef) 0)),
      DV.list true false 1 (asR (cellOf ((tupL r16).getD 0 DV.undef) 1))],
  DV.agg
    [DV.int (asI (cellOf ((tupL r294).getD 0 DV.undef) 0)),
      DV.list true false 1 (asR (cellOf ((tupL r294).getD 0 DV.undef) 1))]]) fun r298 =>
            (bif isRes [{ ag := false, css := [CS.bool] }] r298 then
            some (DV.bool (asB r298))
            else none)
            else some (DV.bool false))
            else some (DV.bool false))
            else none)
            else none))
            else none)
            else none)))
            else none)
            else (bif !decide (asI r208 = 0) then
            (bif !decide (asI ((tupL r12).getD 1 DV.undef) = asI r208) then
            some (DV.bool false)
            else bindC (ih.call 23 [DV.agg
    [DV.int (asI (cellOf ((tupL r12).getD 0 DV.undef) 0)),
      DV.list true false 1 (asR (cellOf ((tupL r12).getD 0 DV.undef) 1))],
  DV.agg [DV.int 0, DV.list true false 1 []]]) fun r302 =>
            (bif isRes [{ ag := false, css := [CS.bool] }] r302 then
            (bif !asB r302 then
            some (DV.bool false)
            else (bif decide (asI r208 = 0) then
            (bif !decide (asI ((tupL r12).getD 1 DV.undef) = 0) then
            some (DV.bool false)
            else bindC (ih.call 24 [DV.agg [DV.list true false 1 l0, DV.list true false 1 l1], DV.list true false 1 l4]) fun r307 =>
            (bif isRes [{ ag := true, css := [CS.int, CS.list 1] }] r307 then
            bindC (ih.call 23 [DV.agg
    [DV.int (asI (cellOf ((tupL r12).getD 0 DV.undef) 0)),
      DV.list true false 1 (asR (cellOf ((tupL r12).getD 0 DV.undef) 1))],
  DV.agg [DV.int (asI (cellOf r307 0)), DV.list true false 1 (asR (cellOf r307 1))]]) fun r309 =>
            (bif isRes [{ ag := false, css := [CS.bool] }] r309 then
            (bif !asB r309 then
            some (DV.bool false)
            else bindC (ih.call 26 [DV.agg [DV.int x2, DV.int x3]]) fun r312 =>
            (bif isRes [{ ag := false, css := [CS.int] }] r312 then
            bindC (ih.call 25 [DV.int (asI r208), DV.int (asI r312)]) fun r314 =>
            (bif isRes [{ ag := false, css := [CS.int] }] r314 then
            (bif !decide (asI r314 = 0) then
            (bif decide (asI ((tupL r16).getD 2 DV.undef) = asI r314) then
            (bif decide (asI ((tupL r16).getD 1 DV.undef) = 0) then
            bindC (ih.call 23 [DV.agg
    [DV.int (asI (cellOf ((tupL r16).getD 0 DV.undef) 0)),
      DV.list true false 1 (asR (cellOf ((tupL r16).getD 0 DV.undef) 1))],
  DV.agg [DV.int 0, DV.list true false 1 []]]) fun r319 =>
            (bif isRes [{ ag := false, css := [CS.bool] }] r319 then
            some (DV.bool (asB r319))
            else none)
            else some (DV.bool false))
            else some (DV.bool false))
            else bindC (ih.call 28 [DV.agg [DV.int x2, DV.int x3]]) fun r321 =>
            (bif isRes [{ ag := true, css := [CS.int, CS.list 1, CS.int, CS.list 1] }] r321 then
            bindC (ih.call 27 [DV.agg [DV.list false false 1 l0, DV.list false false 1 l1],
  DV.agg
    [DV.int (asI (cellOf r321 0)), DV.list false false 1 (asR (cellOf r321 1)), DV.int (asI (cellOf r321 2)),
      DV.list false false 1 (asR (cellOf r321 3))]]) fun r323 =>
            (bif isRes [{ ag := true, css := [CS.int, CS.list 1] }, { ag := false, css := [CS.int] }] r323 then
            (bif decide (asI ((tupL r16).getD 2 DV.undef) = 0) then
            (bif decide (asI ((tupL r16).getD 1 DV.undef) = asI ((tupL r323).getD 1 DV.undef)) then
            bindC (ih.call 23 [DV.agg
    [DV.int (asI (cellOf ((tupL r16).getD 0 DV.undef) 0)),
      DV.list true false 1 (asR (cellOf ((tupL r16).getD 0 DV.undef) 1))],
  DV.agg
    [DV.int (asI (cellOf ((tupL r323).getD 0 DV.undef) 0)),
      DV.list true false 1 (asR (cellOf ((tupL r323).getD 0 DV.undef) 1))]]) fun r327 =>
            (bif isRes [{ ag := false, css := [CS.bool] }] r327 then
            some (DV.bool (asB r327))
            else none)
            else some (DV.bool false))
            else some (DV.bool false))
            else none)
            else none))
            else none)
            else none))
            else none)
            else none))
            else bindC (ih.call 26 [DV.agg [DV.int x2, DV.int x3]]) fun r329 =>
            (bif isRes [{ ag := false, css := [CS.int] }] r329 then
            bindC (ih.call 25 [DV.int (asI r208), DV.int (asI r329)]) fun r331 =>
            (bif isRes [{ ag := false, css := [CS.int] }] r331 then
            (bif !decide (asI r331 = 0) then
            (bif decide (asI ((tupL r16).getD 2 DV.undef) = asI r331) then
            (bif decide (asI ((tupL r16).getD 1 DV.undef) = 0) then
            bindC (ih.call 23 [DV.agg
    [DV.int (asI (cellOf ((tupL r16).getD 0 DV.undef) 0)),
      DV.list true false 1 (asR (cellOf ((tupL r16).getD 0 DV.undef) 1))],
  DV.agg [DV.int 0, DV.list true false 1 []]]) fun r336 =>
            (bif isRes [{ ag := false, css := [CS.bool] }] r336 then
            some (DV.bool (asB r336))
            else none)
            else some (DV.bool false))
            else some (DV.bool false))
            else bindC (ih.call 28 [DV.agg [DV.int x2, DV.int x3]]) fun r338 =>
            (bif isRes [{ ag := true, css := [CS.int, CS.list 1, CS.int, CS.list 1] }] r338 then
            bindC (ih.call 27 [DV.agg [DV.list false false 1 l0, DV.list false false 1 l1],
  DV.agg
    [DV.int (asI (cellOf r338 0)), DV.list false false 1 (asR (cellOf r338 1)), DV.int (asI (cellOf r338 2)),
      DV.list false false 1 (asR (cellOf r338 3))]]) fun r340 =>
            (bif isRes [{ ag := true, css := [CS.int, CS.list 1] }, { ag := false, css := [CS.int] }] r340 then
            (bif decide (asI ((tupL r16).getD 2 DV.undef) = 0) then
            (bif decide (asI ((tupL r16).getD 1 DV.undef) = asI ((tupL r340).getD 1 DV.undef)) then
            bindC (ih.call 23 [DV.agg
    [DV.int (asI (cellOf ((tupL r16).getD 0 DV.undef) 0)),
      DV.list true false 1 (asR (cellOf ((tupL r16).getD 0 DV.undef) 1))],
  DV.agg
    [DV.int (asI (cellOf ((tupL r340).getD 0 DV.undef) 0)),
      DV.list true false 1 (asR (cellOf ((tupL r340).getD 0 DV.undef) 1))]]) fun r344 =>
            (bif isRes [{ ag := false, css := [CS.bool] }] r344 then
            some (DV.bool (asB r344))
            else none)
            else some (DV.bool false))
            else some (DV.bool false))
            else none)
            else none))
            else none)
            else none)))
            else none))
            else (bif decide (asI r208 = 0) then
            (bif !decide (asI ((tupL r12).getD 1 DV.undef) = 0) then
            some (DV.bool false)
            else bindC (ih.call 24 [DV.agg [DV.list true false 1 l0, DV.list true false 1 l1], DV.list true false 1 l4]) fun r348 =>
            (bif isRes [{ ag := true, css := [CS.int, CS.list 1] }] r348 then
            bindC (ih.call 23 [DV.agg
    [DV.int (asI (cellOf ((tupL r12).getD 0 DV.undef) 0)),
      DV.list true false 1 (asR (cellOf ((tupL r12).getD 0 DV.undef) 1))],
  DV.agg [DV.int (asI (cellOf r348 0)), DV.list true false 1 (asR (cellOf r348 1))]]) fun r350 =>
            (bif isRes [{ ag := false, css := [CS.bool] }] r350 then
            (bif !asB r350 then
            some (DV.bool false)
            else bindC (ih.call 26 [DV.agg [DV.int x2, DV.int x3]]) fun r353 =>
            (bif isRes [{ ag := false, css := [CS.int] }] r353 then
            bindC (ih.call 25 [DV.int (asI r208), DV.int (asI r353)]) fun r355 =>
            (bif isRes [{ ag := false, css := [CS.int] }] r355 then
            (bif !decide (asI r355 = 0) then
            (bif decide (asI ((tupL r16).getD 2 DV.undef) = asI r355) then
            (bif decide (asI ((tupL r16).getD 1 DV.undef) = 0) then
            bindC (ih.call 23 [DV.agg
    [DV.int (asI (cellOf ((tupL r16).getD 0 DV.undef) 0)),
      DV.list true false 1 (asR (cellOf ((tupL r16).getD 0 DV.undef) 1))],
  DV.agg [DV.int 0, DV.list true false 1 []]]) fun r360 =>
            (bif isRes [{ ag := false, css := [CS.bool] }] r360 then
            some (DV.bool (asB r360))
            else none)
            else some (DV.bool false))
            else some (DV.bool false))
            else bindC (ih.call 28 [DV.agg [DV.int x2, DV.int x3]]) fun r362 =>
            (bif isRes [{ ag := true, css := [CS.int, CS.list 1, CS.int, CS.list 1] }] r362 then
            bindC (ih.call 27 [DV.agg [DV.list false false 1 l0, DV.list false false 1 l1],
  DV.agg
    [DV.int (asI (cellOf r362 0)), DV.list false false 1 (asR (cellOf r362 1)), DV.int (asI (cellOf r362 2)),
      DV.list false false 1 (asR (cellOf r362 3))]]) fun r364 =>
            (bif isRes [{ ag := true, css := [CS.int, CS.list 1] }, { ag := false, css := [CS.int] }] r364 then
            (bif decide (asI ((tupL r16).getD 2 DV.undef) = 0) then
            (bif decide (asI ((tupL r16).getD 1 DV.undef) = asI ((tupL r364).getD 1 DV.undef)) then
            bindC (ih.call 23 [DV.agg
    [DV.int (asI (cellOf ((tupL r16).getD 0 DV.undef) 0)),
      DV.list true false 1 (asR (cellOf ((tupL r16).getD 0 DV.undef) 1))],
  DV.agg
    [DV.int (asI (cellOf ((tupL r364).getD 0 DV.undef) 0)),
      DV.list true false 1 (asR (cellOf ((tupL r364).getD 0 DV.undef) 1))]]) fun r368 =>
            (bif isRes [{ ag := false, css := [CS.bool] }] r368 then
            some (DV.bool (asB r368))
            else none)
            else some (DV.bool false))
            else some (DV.bool false))
            else none)
            else none))
            else none)
            else none))
            else none)
            else none))
            else bindC (ih.call 26 [DV.agg [DV.int x2, DV.int x3]]) fun r370 =>
            (bif isRes [{ ag := false, css := [CS.int] }] r370 then
            bindC (ih.call 25 [DV.int (asI r208), DV.int (asI r370)]) fun r372 =>
            (bif isRes [{ ag := false, css := [CS.int] }] r372 then
            (bif !decide (asI r372 = 0) then
            (bif decide (asI ((tupL r16).getD 2 DV.undef) = asI r372) then
            (bif decide (asI ((tupL r16).getD 1 DV.undef) = 0) then
            bindC (ih.call 23 [DV.agg
    [DV.int (asI (cellOf ((tupL r16).getD 0 DV.undef) 0)),
      DV.list true false 1 (asR (cellOf ((tupL r16).getD 0 DV.undef) 1))],
  DV.agg [DV.int 0, DV.list true false 1 []]]) fun r377 =>
            (bif isRes [{ ag := false, css := [CS.bool] }] r377 then
            some (DV.bool (asB r377))
            else none)
            else some (DV.bool false))
            else some (DV.bool false))
            else bindC (ih.call 28 [DV.agg [DV.int x2, DV.int x3]]) fun r379 =>
            (bif isRes [{ ag := true, css := [CS.int, CS.list 1, CS.int, CS.list 1] }] r379 then
            bindC (ih.call 27 [DV.agg [DV.list false false 1 l0, DV.list false false 1 l1],
  DV.agg
    [DV.int (asI (cellOf r379 0)), DV.list false false 1 (asR (cellOf r379 1)), DV.int (asI (cellOf r379 2)),
      DV.list false false 1 (asR (cellOf r379 3))]]) fun r381 =>
            (bif isRes [{ ag := true, css := [CS.int, CS.list 1] }, { ag := false, css := [CS.int] }] r381 then
            (bif decide (asI ((tupL r16).getD 2 DV.undef) = 0) then
            (bif decide (asI ((tupL r16).getD 1 DV.undef) = asI ((tupL r381).getD 1 DV.undef)) then
            bindC (ih.call 23 [DV.agg
    [DV.int (asI (cellOf ((tupL r16).getD 0 DV.undef) 0)),
      DV.list true false 1 (asR (cellOf ((tupL r16).getD 0 DV.undef) 1))],
  DV.agg
    [DV.int (asI (cellOf ((tupL r381).getD 0 DV.undef) 0)),
      DV.list true false 1 (asR (cellOf ((tupL r381).getD 0 DV.undef) 1))]]) fun r385 =>
            (bif isRes [{ ag := false, css := [CS.bool] }] r385 then
            some (DV.bool (asB r385))
            else none)
            else some (DV.bool false))
            else some (DV.bool false))
            else none)
            else none))
            else none)
            else none))))
            else none))
            else none)))
            else none)
            else none)
            else none)
            else none)
            else none)
            else none)
           else none))))
      else none))
   else none) := by kernel_rfl
theorem e56_57 (ih : VIh) (l0 : List DV) : callF vt1 ih 56 [DV.list true false 1 l0, DV.func 57 [] []] =
  bindC (ih.call 101 [DV.list true false 1 l0, DV.func 57 [] []]) fun r0 =>
   (bif isRes [{ ag := false, css := [CS.int] }] r0 then
    some (DV.bool (decide (0 ≤ asI r0)))
   else none) := by kernel_rfl
theorem e101_57 (ih : VIh) (l0 : List DV) : callF vt1 ih 101 [DV.list true false 1 l0, DV.func 57 [] []] =
  ih.at_ 101 0 (tblL [(0, DV.list true false 1 l0), (1, DV.func 57 [] []), (7, DV.int (↑l0.length : Int)), (8, DV.int 0)]) [] := by kernel_rfl
theorem e101_57_0 (ih : VIh) (l0 : List DV) (x1 : Int) (x2 : Int) : atF vt1 ih 101 0 (tblL [(0, DV.list true false 1 l0), (1, DV.func 57 [] []), (7, DV.int x1), (8, DV.int x2)]) [] =
  (bif decide (x2 < x1) then
   (bif okR l0 x2 { ag := false, css := [CS.int] } then
    bindC (ih.call 57 [DV.int (asI (l0.getD x2.toNat DV.undef))]) fun r2 =>
     (bif isRes [{ ag := false, css := [CS.bool] }] r2 then
      (bif asB r2 then
       some (DV.int x2)
      else ih.at_ 101 0 (tblL [(0, DV.list true false 1 l0), (1, DV.func 57 [] []), (7, DV.int x1), (8, DV.int (w64 (x2 + 1)))]) [])
     else none)
   else none)
  else some (DV.int (-1))) := by kernel_rfl
theorem e61 (ih : VIh) (x0 : Int) (l1 : List DV) (x2 : Int) (x3 : Int) (l4 : List DV) (l5 : List DV) : callF vt1 ih 61 [DV.int x0, DV.fbp true [DV.list true false 1 l1] 0, DV.fbp true [DV.int x2, DV.int x3] 0,
  DV.fbp true [DV.list true false 1 l4, DV.list true false 1 l5] 0] =
  (bif decide (0 < x0) then
   (bif okR l1 (w64 (x0 - 1)) { ag := false, css := [CS.int] } then
    (bif okR l5 x0 { ag := false, css := [CS.int] } then
     (bif okR l1 x0 { ag := false, css := [CS.int] } then
      (bif okR l4 x0 { ag := false, css := [CS.int] } then
       (bif okR l1 x0 { ag := false, css := [CS.int] } then
        some (DV.int
  (w64
    (w64
        (w64 (x3 * asI (l5.getD x0.toNat DV.undef)) *
          w64 (asI (l1.getD x0.toNat DV.undef) - asI (l1.getD (w64 (x0 - 1)).toNat DV.undef))) -
      w64 (w64 (x2 * asI (l4.getD x0.toNat DV.undef)) * asI (l1.getD x0.toNat DV.undef)))))
       else none)
      else none)
     else none)
    else none)
   else none)
  else (bif okR l5 x0 { ag := false, css := [CS.int] } then
    (bif okR l1 x0 { ag := false, css := [CS.int] } then
     (bif okR l4 x0 { ag := false, css := [CS.int] } then
      (bif okR l1 x0 { ag := false, css := [CS.int] } then
       some (DV.int
  (w64
    (w64 (w64 (x3 * asI (l5.getD x0.toNat DV.undef)) * w64 (asI (l1.getD x0.toNat DV.undef) - 0)) -
      w64 (w64 (x2 * asI (l4.getD x0.toNat DV.undef)) * asI (l1.getD x0.toNat DV.undef)))))
      else none)
     else none)
    else none)
   else none)) := by kernel_rfl
end Go.Proofs
/- Equations of V for functions of the program: written by a program of this session (NF, NFg, gq). -/
namespace Go.Proofs
open Go Go.Sx Go.Vx
set_option maxRecDepth 100000
set_option maxHeartbeats 0
theorem e114 (ih : VIh) (x0 : Int) (x1 : Int) (x2 : Int) : callF vt1 ih 114 [DV.int x0, DV.int x1, DV.int x2] =
  (bif decide (x1 ≤ x0) then
   some (DV.bool (decide (x0 ≤ x2)))
  else some (DV.bool false)) := by kernel_rfl
theorem e88 (ih : VIh) (b0 : Bool) (x1 : Int) : callF vt1 ih 88 [DV.bool b0, DV.int x1] =
  (bif b0 then
   some (DV.int 0)
  else some (DV.int x1)) := by kernel_rfl
theorem e87 (ih : VIh) (l0 : List DV) : callF vt1 ih 87 [DV.list true false 1 l0] =
  ih.at_ 87 0 (tblL [(5, DV.list true false 1 l0), (6, DV.int (↑l0.length : Int)), (7, DV.int 0)]) [] := by kernel_rfl
theorem e87_0 (ih : VIh) (l0 : List DV) (x1 : Int) (x2 : Int) : atF vt1 ih 87 0 (tblL [(5, DV.list true false 1 l0), (6, DV.int x1), (7, DV.int x2)]) [] =
  (bif decide (x2 < x1) then
   (bif okR l0 x2 { ag := false, css := [CS.int] } then
    (bif !decide (asI (l0.getD x2.toNat DV.undef) = 0) then
     some (DV.int (asI (l0.getD x2.toNat DV.undef)))
    else ih.at_ 87 0 (tblL [(5, DV.list true false 1 l0), (6, DV.int x1), (7, DV.int (w64 (x2 + 1)))]) [])
   else none)
  else some (DV.int 0)) := by kernel_rfl
theorem e86 (ih : VIh) (l0 : List DV) : callF vt1 ih 86 [DV.list true false 1 l0] =
  (bif decide ((↑l0.length : Int) = 0) then
   some (DV.int 0)
  else (bif okR l0 0 { ag := false, css := [CS.list 1] } then
    some (DV.int (↑(asR (l0.getD 0 DV.undef)).length : Int))
   else none)) := by kernel_rfl
theorem e123 (ih : VIh) (x0 : Int) : callF vt1 ih 123 [DV.int x0] =
  bindC (ih.call 114 [DV.int x0, DV.int 0, DV.int 255]) fun r0 =>
   (bif isRes [{ ag := false, css := [CS.bool] }] r0 then
    some (DV.bool !asB r0)
   else none) := by kernel_rfl
theorem e124 (ih : VIh) (x0 : Int) : callF vt1 ih 124 [DV.int x0] =
  some (DV.bool !decide (x0 = 0)) := by kernel_rfl
theorem e83 (ih : VIh) (l0 : List DV) : callF vt1 ih 83 [DV.list true false 1 l0] =
  bindC (ih.call 86 [DV.list true false 1 l0]) fun r0 =>
   (bif isRes [{ ag := false, css := [CS.int] }] r0 then
    bindC (ih.call 121 [DV.list true false 1 l0, DV.func 122 [] [DV.fbp true [DV.int (asI r0)] 0]]) fun r2 =>
     (bif isRes [{ ag := false, css := [CS.bool] }] r2 then
      ih.at_ 83 0 (tblL [(0, DV.list true false 1 l0), (3, DV.ptr 0 0), (4, DV.bool (asB r2)), (5, DV.bool false), (6, DV.bool true), (14, DV.list true false 1 l0), (15, DV.int (↑l0.length : Int)), (16, DV.int 0)]) [.box [DV.int (asI r0)]]
     else none)
   else none) := by kernel_rfl
theorem e83_0 (ih : VIh) (l0 : List DV) (b1 : Bool) (b2 : Bool) (b3 : Bool) (l4 : List DV) (x5 : Int) (x6 : Int) (x7 : Int) : atF vt1 ih 83 0 (tblL [(0, DV.list true false 1 l0), (3, DV.ptr 0 0), (4, DV.bool b1), (5, DV.bool b2), (6, DV.bool b3), (14, DV.list true false 1 l4), (15, DV.int x5), (16, DV.int x6)]) [VB.box [DV.int x7]] =
  (bif decide (x6 < x5) then
   (bif okR l4 x6 { ag := false, css := [CS.list 1] } then
    (bif b2 then
     (bif b3 then
      bindC (ih.call 56 [DV.list true false 1 (asR (l4.getD x6.toNat DV.undef)), DV.func 124 [] []]) fun r4 =>
       (bif isRes [{ ag := false, css := [CS.bool] }] r4 then
        ih.at_ 83 0 (tblL [(0, DV.list true false 1 l0), (3, DV.ptr 0 0), (4, DV.bool b1), (5, DV.bool true), (6, DV.bool !asB r4), (14, DV.list true false 1 l4), (15, DV.int x5), (16, DV.int (w64 (x6 + 1)))]) [.box [DV.int x7]]
       else none)
     else ih.at_ 83 0 (tblL [(0, DV.list true false 1 l0), (3, DV.ptr 0 0), (4, DV.bool b1), (5, DV.bool true), (6, DV.bool false), (14, DV.list true false 1 l4), (15, DV.int x5), (16, DV.int (w64 (x6 + 1)))]) [.box [DV.int x7]])
    else bindC (ih.call 56 [DV.list true false 1 (asR (l4.getD x6.toNat DV.undef)), DV.func 123 [] []]) fun r6 =>
      (bif isRes [{ ag := false, css := [CS.bool] }] r6 then
       (bif b3 then
        bindC (ih.call 56 [DV.list true false 1 (asR (l4.getD x6.toNat DV.undef)), DV.func 124 [] []]) fun r9 =>
         (bif isRes [{ ag := false, css := [CS.bool] }] r9 then
          ih.at_ 83 0 (tblL [(0, DV.list true false 1 l0), (3, DV.ptr 0 0), (4, DV.bool b1), (5, DV.bool (asB r6)), (6, DV.bool !asB r9), (14, DV.list true false 1 l4), (15, DV.int x5), (16, DV.int (w64 (x6 + 1)))]) [.box [DV.int x7]]
         else none)
       else ih.at_ 83 0 (tblL [(0, DV.list true false 1 l0), (3, DV.ptr 0 0), (4, DV.bool b1), (5, DV.bool (asB r6)), (6, DV.bool false), (14, DV.list true false 1 l4), (15, DV.int x5), (16, DV.int (w64 (x6 + 1)))]) [.box [DV.int x7]])
      else none))
   else none)
  else (bif decide (0 < x7) then
    bindC (ih.call 88 [DV.bool !b1, DV.int 10]) fun r12 =>
     (bif isRes [{ ag := false, css := [CS.int] }] r12 then
      (bif decide (x7 ≤ 10) then
       bindC (ih.call 88 [DV.bool (decide ((↑l0.length : Int) ≤ 10)), DV.int 8]) fun r15 =>
        (bif isRes [{ ag := false, css := [CS.int] }] r15 then
         bindC (ih.call 88 [DV.bool !b2, DV.int 2]) fun r17 =>
          (bif isRes [{ ag := false, css := [CS.int] }] r17 then
           bindC (ih.call 88 [DV.bool !b3, DV.int 11]) fun r19 =>
            (bif isRes [{ ag := false, css := [CS.int] }] r19 then
            bindC (ih.call 87 [DV.list true false 1 [DV.int (asI r12), DV.int (asI r15), DV.int (asI r17), DV.int (asI r19)]]) fun r21 =>
            (bif isRes [{ ag := false, css := [CS.int] }] r21 then
            some (DV.int (asI r21))
            else none)
            else none)
          else none)
        else none)
      else bindC (ih.call 88 [DV.bool false, DV.int 8]) fun r23 =>
        (bif isRes [{ ag := false, css := [CS.int] }] r23 then
         bindC (ih.call 88 [DV.bool !b2, DV.int 2]) fun r25 =>
          (bif isRes [{ ag := false, css := [CS.int] }] r25 then
           bindC (ih.call 88 [DV.bool !b3, DV.int 11]) fun r27 =>
            (bif isRes [{ ag := false, css := [CS.int] }] r27 then
            bindC (ih.call 87 [DV.list true false 1 [DV.int (asI r12), DV.int (asI r23), DV.int (asI r25), DV.int (asI r27)]]) fun r29 =>
            (bif isRes [{ ag := false, css := [CS.int] }] r29 then
            some (DV.int (asI r29))
            else none)
            else none)
          else none)
        else none))
     else none)
   else bindC (ih.call 88 [DV.bool false, DV.int 10]) fun r31 =>
     (bif isRes [{ ag := false, css := [CS.int] }] r31 then
      (bif decide (x7 ≤ 10) then
       bindC (ih.call 88 [DV.bool (decide ((↑l0.length : Int) ≤ 10)), DV.int 8]) fun r34 =>
        (bif isRes [{ ag := false, css := [CS.int] }] r34 then
         bindC (ih.call 88 [DV.bool !b2, DV.int 2]) fun r36 =>
          (bif isRes [{ ag := false, css := [CS.int] }] r36 then
           bindC (ih.call 88 [DV.bool !b3, DV.int 11]) fun r38 =>
            (bif isRes [{ ag := false, css := [CS.int] }] r38 then
            bindC (ih.call 87 [DV.list true false 1 [DV.int (asI r31), DV.int (asI r34), DV.int (asI r36), DV.int (asI r38)]]) fun r40 =>
            (bif isRes [{ ag := false, css := [CS.int] }] r40 then
            some (DV.int (asI r40))
            else none)
            else none)
          else none)
        else none)
      else bindC (ih.call 88 [DV.bool false, DV.int 8]) fun r42 =>
        (bif isRes [{ ag := false, css := [CS.int] }] r42 then
         bindC (ih.call 88 [DV.bool !b2, DV.int 2]) fun r44 =>
          (bif isRes [{ ag := false, css := [CS.int] }] r44 then
           bindC (ih.call 88 [DV.bool !b3, DV.int 11]) fun r46 =>
            (bif isRes [{ ag := false, css := [CS.int] }] r46 then
            bindC (ih.call 87 [DV.list true false 1 [DV.int (asI r31), DV.int (asI r42), DV.int (asI r44), DV.int (asI r46)]]) fun r48 =>
            (bif isRes [{ ag := false, css := [CS.int] }] r48 then
            some (DV.int (asI r48))
            else none)
            else none)
          else none)
        else none))
     else none))) := by kernel_rfl
theorem e84 (ih : VIh) (l0 : List DV) : callF vt1 ih 84 [DV.list true false 1 l0] =
  ih.at_ 84 0 (tblL [(2, DV.ptr 0 0), (3, DV.ptr 1 0), (8, DV.list true false 1 l0), (9, DV.int (↑l0.length : Int)), (10, DV.int 0)]) [.box [DV.int 0, DV.int 0, DV.int 0], .box [DV.int 0, DV.int 0, DV.int 0]] := by kernel_rfl
theorem e84_0 (ih : VIh) (l0 : List DV) (x1 : Int) (x2 : Int) (x3 : Int) (x4 : Int) (x5 : Int) (x6 : Int) (x7 : Int) (x8 : Int) : atF vt1 ih 84 0 (tblL [(2, DV.ptr 0 0), (3, DV.ptr 1 0), (8, DV.list true false 1 l0), (9, DV.int x1), (10, DV.int x2)]) [VB.box [DV.int x3, DV.int x4, DV.int x5], VB.box [DV.int x6, DV.int x7, DV.int x8]] =
  (bif decide (x2 < x1) then
   (bif okR l0 x2 { ag := false, css := [CS.list 1] } then
    ih.at_ 84 1 (tblL [(2, DV.ptr 0 0), (3, DV.ptr 1 0), (4, DV.int x2), (8, DV.list true false 1 l0), (9, DV.int x1), (10, DV.int x2), (15, DV.list false false 1 (asR (l0.getD x2.toNat DV.undef))), (16, DV.int (↑(asR (l0.getD x2.toNat DV.undef)).length : Int)), (17, DV.int 0)]) [.box [DV.int x3, DV.int x4, DV.int x5], .box [DV.int x6, DV.int x7, DV.int x8]]
   else none)
  else some (DV.agg [DV.int x6, DV.int x7, DV.int x8])) := by kernel_rfl
theorem e84_1 (ih : VIh) (x0 : Int) (l1 : List DV) (x2 : Int) (x3 : Int) (l4 : List DV) (x5 : Int) (x6 : Int) (x7 : Int) (x8 : Int) (x9 : Int) (x10 : Int) (x11 : Int) (x12 : Int) : atF vt1 ih 84 1 (tblL [(2, DV.ptr 0 0), (3, DV.ptr 1 0), (4, DV.int x0), (8, DV.list true false 1 l1), (9, DV.int x2), (10, DV.int x3), (15, DV.list false false 1 l4), (16, DV.int x5), (17, DV.int x6)]) [VB.box [DV.int x7, DV.int x8, DV.int x9], VB.box [DV.int x10, DV.int x11, DV.int x12]] =
  (bif decide (x6 < x5) then
   (bif okR l4 x6 { ag := false, css := [CS.int] } then
    ih.at_ 84 1 (tblL [(2, DV.ptr 0 0), (3, DV.ptr 1 0), (4, DV.int x0), (8, DV.list true false 1 l1), (9, DV.int x2), (10, DV.int x3), (15, DV.list false false 1 l4), (16, DV.int x5), (17, DV.int (w64 (x6 + 1)))]) [.box [DV.int x7, DV.int x8, DV.int x9], .box [DV.int (w64 (x10 + w64 (x6 * asI (l4.getD x6.toNat DV.undef)))),
  DV.int (w64 (x11 + w64 (x0 * asI (l4.getD x6.toNat DV.undef)))), DV.int (w64 (x12 + asI (l4.getD x6.toNat DV.undef)))]]
   else none)
  else ih.at_ 84 0 (tblL [(2, DV.ptr 0 0), (3, DV.ptr 1 0), (8, DV.list true false 1 l1), (9, DV.int x2), (10, DV.int (w64 (x3 + 1)))]) [.box [DV.int x7, DV.int x8, DV.int x9], .box [DV.int x10, DV.int x11, DV.int x12]]) := by kernel_rfl
theorem e85 (ih : VIh) (x0 : Int) (x1 : Int) : callF vt1 ih 85 [DV.int x0, DV.int x1] =
  bindC (ih.call 110 [DV.list true false 1 [DV.int x0, DV.int x1]]) fun r0 =>
   (bif isRes [{ ag := false, css := [CS.int] }] r0 then
    (bif decide (asI r0 = 0) then
     none
    else (bif decide (asI r0 = 0) then
      none
     else some (DV.agg [DV.int (w64 (x0.tdiv (asI r0))), DV.int (w64 (x1.tdiv (asI r0)))])))
   else none) := by kernel_rfl
theorem e110 (ih : VIh) (l0 : List DV) : callF vt1 ih 110 [DV.list true false 1 l0] =
  ih.at_ 110 0 (tblL [(3, DV.int 0), (6, DV.list true false 1 l0), (7, DV.int (↑l0.length : Int)), (8, DV.int 0)]) [] := by kernel_rfl
theorem e110_0 (ih : VIh) (x0 : Int) (l1 : List DV) (x2 : Int) (x3 : Int) : atF vt1 ih 110 0 (tblL [(3, DV.int x0), (6, DV.list true false 1 l1), (7, DV.int x2), (8, DV.int x3)]) [] =
  (bif decide (x3 < x2) then
   (bif okR l1 x3 { ag := false, css := [CS.int] } then
    ih.at_ 110 1 (tblL [(3, DV.int x0), (5, DV.int (asI (l1.getD x3.toNat DV.undef))), (6, DV.list true false 1 l1), (7, DV.int x2), (8, DV.int x3)]) []
   else none)
  else some (DV.int (max x0 (w64 (0 - x0))))) := by kernel_rfl
theorem e110_1 (ih : VIh) (x0 : Int) (x1 : Int) (l2 : List DV) (x3 : Int) (x4 : Int) : atF vt1 ih 110 1 (tblL [(3, DV.int x0), (5, DV.int x1), (6, DV.list true false 1 l2), (7, DV.int x3), (8, DV.int x4)]) [] =
  (bif !decide (x1 = 0) then
   (bif decide (x1 = 0) then
    none
   else ih.at_ 110 1 (tblL [(3, DV.int x1), (5, DV.int (x0.tmod x1)), (6, DV.list true false 1 l2), (7, DV.int x3), (8, DV.int x4)]) [])
  else ih.at_ 110 0 (tblL [(3, DV.int x0), (6, DV.list true false 1 l2), (7, DV.int x3), (8, DV.int (w64 (x4 + 1)))]) []) := by kernel_rfl
theorem e31 (ih : VIh) (l0 : List DV) : callF vt1 ih 31 [DV.list true false 1 l0] =
  bindC (ih.call 83 [DV.list true false 1 l0]) fun r0 =>
   (bif isRes [{ ag := false, css := [CS.int] }] r0 then
    (bif !decide (asI r0 = 0) then
     some (DV.tup [DV.agg [DV.int 0, DV.int 0, DV.int 0, DV.int 0], DV.int (asI r0)])
    else bindC (ih.call 84 [DV.list true false 1 l0]) fun r3 =>
      (bif isRes [{ ag := true, css := [CS.int, CS.int, CS.int] }] r3 then
       bindC (ih.call 85 [DV.int (asI (cellOf r3 0)), DV.int (asI (cellOf r3 2))]) fun r5 =>
        (bif isRes [{ ag := true, css := [CS.int, CS.int] }] r5 then
         bindC (ih.call 85 [DV.int (asI (cellOf r3 1)), DV.int (asI (cellOf r3 2))]) fun r7 =>
          (bif isRes [{ ag := true, css := [CS.int, CS.int] }] r7 then
           some (DV.tup
  [DV.agg
      [DV.int (asI (cellOf r5 0)), DV.int (asI (cellOf r5 1)), DV.int (asI (cellOf r7 0)), DV.int (asI (cellOf r7 1))],
    DV.int 0])
          else none)
        else none)
      else none))
   else none) := by kernel_rfl
theorem e33 (ih : VIh) (l0 : List DV) (l1 : List DV) : callF vt1 ih 33 [DV.list true false 1 l0, DV.list true false 1 l1] =
  (bif decide ((↑l0.length : Int) = (↑l1.length : Int)) then
   bindC (ih.call 86 [DV.list true false 1 l0]) fun r1 =>
    (bif isRes [{ ag := false, css := [CS.int] }] r1 then
     bindC (ih.call 86 [DV.list true false 1 l1]) fun r3 =>
      (bif isRes [{ ag := false, css := [CS.int] }] r3 then
       bindC (ih.call 83 [DV.list true false 1 l0]) fun r5 =>
        (bif isRes [{ ag := false, css := [CS.int] }] r5 then
         bindC (ih.call 83 [DV.list true false 1 l1]) fun r7 =>
          (bif isRes [{ ag := false, css := [CS.int] }] r7 then
           bindC (ih.call 88 [DV.bool (decide (asI r1 = asI r3)), DV.int 13]) fun r9 =>
            (bif isRes [{ ag := false, css := [CS.int] }] r9 then
            bindC (ih.call 87 [DV.list true false 1 [DV.int (asI r5), DV.int (asI r7), DV.int (asI r9)]]) fun r11 =>
            (bif isRes [{ ag := false, css := [CS.int] }] r11 then
            (bif !decide (asI r11 = 0) then
            some (DV.tup [DV.agg [DV.int 0, DV.int 0, DV.int 0, DV.int 0], DV.int (asI r11)])
            else bindC (ih.call 84 [DV.list true false 1 l0]) fun r14 =>
            (bif isRes [{ ag := true, css := [CS.int, CS.int, CS.int] }] r14 then
            bindC (ih.call 84 [DV.list true false 1 l1]) fun r16 =>
            (bif isRes [{ ag := true, css := [CS.int, CS.int, CS.int] }] r16 then
            bindC (ih.call 85 [DV.int (w64 (w64 (asI (cellOf r16 0) * asI (cellOf r14 2)) - w64 (asI (cellOf r14 0) * asI (cellOf r16 2)))),
  DV.int (w64 (asI (cellOf r14 2) * asI (cellOf r16 2)))]) fun r18 =>
            (bif isRes [{ ag := true, css := [CS.int, CS.int] }] r18 then
            bindC (ih.call 85 [DV.int (w64 (w64 (asI (cellOf r16 1) * asI (cellOf r14 2)) - w64 (asI (cellOf r14 1) * asI (cellOf r16 2)))),
  DV.int (w64 (asI (cellOf r14 2) * asI (cellOf r16 2)))]) fun r20 =>
            (bif isRes [{ ag := true, css := [CS.int, CS.int] }] r20 then
            some (DV.tup
  [DV.agg
      [DV.int (asI (cellOf r18 0)), DV.int (asI (cellOf r18 1)), DV.int (asI (cellOf r20 0)),
        DV.int (asI (cellOf r20 1))],
    DV.int 0])
            else none)
            else none)
            else none)
            else none))
            else none)
            else none)
          else none)
        else none)
      else none)
    else none)
  else bindC (ih.call 83 [DV.list true false 1 l0]) fun r22 =>
    (bif isRes [{ ag := false, css := [CS.int] }] r22 then
     bindC (ih.call 83 [DV.list true false 1 l1]) fun r24 =>
      (bif isRes [{ ag := false, css := [CS.int] }] r24 then
       bindC (ih.call 88 [DV.bool false, DV.int 13]) fun r26 =>
        (bif isRes [{ ag := false, css := [CS.int] }] r26 then
         bindC (ih.call 87 [DV.list true false 1 [DV.int (asI r22), DV.int (asI r24), DV.int (asI r26)]]) fun r28 =>
          (bif isRes [{ ag := false, css := [CS.int] }] r28 then
           (bif !decide (asI r28 = 0) then
            some (DV.tup [DV.agg [DV.int 0, DV.int 0, DV.int 0, DV.int 0], DV.int (asI r28)])
           else bindC (ih.call 84 [DV.list true false 1 l0]) fun r31 =>
            (bif isRes [{ ag := true, css := [CS.int, CS.int, CS.int] }] r31 then
            bindC (ih.call 84 [DV.list true false 1 l1]) fun r33 =>
            (bif isRes [{ ag := true, css := [CS.int, CS.int, CS.int] }] r33 then
            bindC (ih.call 85 [DV.int (w64 (w64 (asI (cellOf r33 0) * asI (cellOf r31 2)) - w64 (asI (cellOf r31 0) * asI (cellOf r33 2)))),
  DV.int (w64 (asI (cellOf r31 2) * asI (cellOf r33 2)))]) fun r35 =>
            (bif isRes [{ ag := true, css := [CS.int, CS.int] }] r35 then
            bindC (ih.call 85 [DV.int (w64 (w64 (asI (cellOf r33 1) * asI (cellOf r31 2)) - w64 (asI (cellOf r31 1) * asI (cellOf r33 2)))),
  DV.int (w64 (asI (cellOf r31 2) * asI (cellOf r33 2)))]) fun r37 =>
            (bif isRes [{ ag := true, css := [CS.int, CS.int] }] r37 then
            some (DV.tup
  [DV.agg
      [DV.int (asI (cellOf r35 0)), DV.int (asI (cellOf r35 1)), DV.int (asI (cellOf r37 0)),
        DV.int (asI (cellOf r37 1))],
    DV.int 0])
            else none)
            else none)
            else none)
            else none))
          else none)
        else none)
      else none)
    else none)) := by kernel_rfl
theorem e34 (ih : VIh) (l0 : List DV) : callF vt1 ih 34 [DV.list true false 1 l0] =
  (bif decide ((↑l0.length : Int) = 0) then
   some (DV.int 10)
  else (bif okR l0 0 { ag := false, css := [CS.list 1] } then
    (bif decide ((↑(asR (l0.getD 0 DV.undef)).length : Int) = 0) then
     some (DV.int 10)
    else ih.at_ 34 0 (tblL [(0, DV.list true false 1 l0), (3, DV.int 0)]) [])
   else none)) := by kernel_rfl
theorem e34_0 (ih : VIh) (l0 : List DV) (x1 : Int) : atF vt1 ih 34 0 (tblL [(0, DV.list true false 1 l0), (3, DV.int x1)]) [] =
  (bif decide (x1 < (↑l0.length : Int)) then
   (bif okR l0 x1 { ag := false, css := [CS.list 1] } then
    (bif okR l0 0 { ag := false, css := [CS.list 1] } then
     (bif !decide ((↑(asR (l0.getD x1.toNat DV.undef)).length : Int) = (↑(asR (l0.getD 0 DV.undef)).length : Int)) then
      some (DV.int 10)
     else ih.at_ 34 0 (tblL [(0, DV.list true false 1 l0), (3, DV.int (w64 (x1 + 1)))]) [])
    else none)
   else none)
  else (bif decide (10 < (↑l0.length : Int)) then
    some (DV.int 8)
   else (bif okR l0 0 { ag := false, css := [CS.list 1] } then
     (bif decide (10 < (↑(asR (l0.getD 0 DV.undef)).length : Int)) then
      some (DV.int 8)
     else ih.at_ 34 1 (tblL [(0, DV.list true false 1 l0), (4, DV.int 0), (5, DV.int 0)]) [])
    else none))) := by kernel_rfl
theorem e34_1 (ih : VIh) (l0 : List DV) (x1 : Int) (x2 : Int) : atF vt1 ih 34 1 (tblL [(0, DV.list true false 1 l0), (4, DV.int x1), (5, DV.int x2)]) [] =
  (bif decide (x2 < (↑l0.length : Int)) then
   ih.at_ 34 2 (tblL [(0, DV.list true false 1 l0), (4, DV.int x1), (5, DV.int x2), (6, DV.int 0)]) []
  else (bif decide (x1 = 0) then
    some (DV.int 11)
   else some (DV.int 0))) := by kernel_rfl
theorem e34_2 (ih : VIh) (l0 : List DV) (x1 : Int) (x2 : Int) (x3 : Int) : atF vt1 ih 34 2 (tblL [(0, DV.list true false 1 l0), (4, DV.int x1), (5, DV.int x2), (6, DV.int x3)]) [] =
  (bif okR l0 x2 { ag := false, css := [CS.list 1] } then
   (bif decide (x3 < (↑(asR (l0.getD x2.toNat DV.undef)).length : Int)) then
    (bif okR l0 x2 { ag := false, css := [CS.list 1] } then
     (bif okR (asR (l0.getD x2.toNat DV.undef)) x3 { ag := false, css := [CS.int] } then
      bindC (ih.call 50 [DV.int (asI ((asR (l0.getD x2.toNat DV.undef)).getD x3.toNat DV.undef)), DV.int 0, DV.int 255]) fun r4 =>
       (bif isRes [{ ag := false, css := [CS.bool] }] r4 then
        (bif !asB r4 then
         some (DV.int 2)
        else (bif okR l0 x2 { ag := false, css := [CS.list 1] } then
          (bif okR (asR (l0.getD x2.toNat DV.undef)) x3 { ag := false, css := [CS.int] } then
           ih.at_ 34 2 (tblL [(0, DV.list true false 1 l0), (4, DV.int (w64 (x1 + asI ((asR (l0.getD x2.toNat DV.undef)).getD x3.toNat DV.undef)))), (5, DV.int x2), (6, DV.int (w64 (x3 + 1)))]) []
          else none)
         else none))
       else none)
     else none)
    else none)
   else ih.at_ 34 1 (tblL [(0, DV.list true false 1 l0), (4, DV.int x1), (5, DV.int (w64 (x2 + 1)))]) [])
  else none) := by kernel_rfl
theorem e36 (ih : VIh) (l0 : List DV) : callF vt1 ih 36 [DV.list true false 1 l0] =
  ih.at_ 36 0 (tblL [(0, DV.list true false 1 l0), (2, DV.ptr 0 0), (3, DV.int 0), (4, DV.int 0), (5, DV.int 0), (6, DV.int 0)]) [.box [DV.int 0, DV.nils, DV.int 0, DV.nils, DV.int 0, DV.nils, DV.int 0, DV.nils]] := by kernel_rfl
theorem e36_0 (ih : VIh) (l0 : List DV) (x1 : Int) (x2 : Int) (x3 : Int) (x4 : Int) (x5 : Int) (x6 : Int) (x7 : Int) (x8 : Int) : atF vt1 ih 36 0 (tblL [(0, DV.list true false 1 l0), (2, DV.ptr 0 0), (3, DV.int x1), (4, DV.int x2), (5, DV.int x3), (6, DV.int x4)]) [VB.box [DV.int x5, DV.nils, DV.int x6, DV.nils, DV.int x7, DV.nils, DV.int x8, DV.nils]] =
  (bif decide (x4 < (↑l0.length : Int)) then
   ih.at_ 36 1 (tblL [(0, DV.list true false 1 l0), (2, DV.ptr 0 0), (3, DV.int x1), (4, DV.int x2), (5, DV.int x3), (6, DV.int x4), (7, DV.int 0)]) [.box [DV.int x5, DV.nils, DV.int x6, DV.nils, DV.int x7, DV.nils, DV.int x8, DV.nils]]
  else bindC (ih.call 54 [DV.int x1, DV.int x3]) fun r1 =>
    (bif isRes [{ ag := true, css := [CS.int, CS.list 1, CS.int, CS.list 1] }] r1 then
     bindC (ih.call 54 [DV.int x2, DV.int x3]) fun r3 =>
      (bif isRes [{ ag := true, css := [CS.int, CS.list 1, CS.int, CS.list 1] }] r3 then
       some (DV.agg
  [DV.int (asI (cellOf r1 0)), DV.list false false 1 (asR (cellOf r1 1)), DV.int (asI (cellOf r1 2)),
    DV.list false false 1 (asR (cellOf r1 3)), DV.int (asI (cellOf r3 0)), DV.list false false 1 (asR (cellOf r3 1)),
    DV.int (asI (cellOf r3 2)), DV.list false false 1 (asR (cellOf r3 3))])
      else none)
    else none)) := by kernel_rfl
theorem e36_1 (ih : VIh) (l0 : List DV) (x1 : Int) (x2 : Int) (x3 : Int) (x4 : Int) (x5 : Int) (x6 : Int) (x7 : Int) (x8 : Int) (x9 : Int) : atF vt1 ih 36 1 (tblL [(0, DV.list true false 1 l0), (2, DV.ptr 0 0), (3, DV.int x1), (4, DV.int x2), (5, DV.int x3), (6, DV.int x4), (7, DV.int x5)]) [VB.box [DV.int x6, DV.nils, DV.int x7, DV.nils, DV.int x8, DV.nils, DV.int x9, DV.nils]] =
  (bif okR l0 x4 { ag := false, css := [CS.list 1] } then
   (bif decide (x5 < (↑(asR (l0.getD x4.toNat DV.undef)).length : Int)) then
    (bif okR l0 x4 { ag := false, css := [CS.list 1] } then
     (bif okR (asR (l0.getD x4.toNat DV.undef)) x5 { ag := false, css := [CS.int] } then
      (bif okR l0 x4 { ag := false, css := [CS.list 1] } then
       (bif okR (asR (l0.getD x4.toNat DV.undef)) x5 { ag := false, css := [CS.int] } then
        (bif okR l0 x4 { ag := false, css := [CS.list 1] } then
         (bif okR (asR (l0.getD x4.toNat DV.undef)) x5 { ag := false, css := [CS.int] } then
          ih.at_ 36 1 (tblL [(0, DV.list true false 1 l0), (2, DV.ptr 0 0), (3, DV.int (w64 (x1 + w64 (x5 * asI ((asR (l0.getD x4.toNat DV.undef)).getD x5.toNat DV.undef))))), (4, DV.int (w64 (x2 + w64 (x4 * asI ((asR (l0.getD x4.toNat DV.undef)).getD x5.toNat DV.undef))))), (5, DV.int (w64 (x3 + asI ((asR (l0.getD x4.toNat DV.undef)).getD x5.toNat DV.undef)))), (6, DV.int x4), (7, DV.int (w64 (x5 + 1)))]) [.box [DV.int x6, DV.nils, DV.int x7, DV.nils, DV.int x8, DV.nils, DV.int x9, DV.nils]]
         else none)
        else none)
       else none)
      else none)
     else none)
    else none)
   else ih.at_ 36 0 (tblL [(0, DV.list true false 1 l0), (2, DV.ptr 0 0), (3, DV.int x1), (4, DV.int x2), (5, DV.int x3), (6, DV.int (w64 (x4 + 1)))]) [.box [DV.int x6, DV.nils, DV.int x7, DV.nils, DV.int x8, DV.nils, DV.int x9, DV.nils]])
  else none) := by kernel_rfl
theorem e35 (ih : VIh) (x0 : Int) (l1 : List DV) (x2 : Int) (l3 : List DV) (x4 : Int) (l5 : List DV) (x6 : Int) (l7 : List DV) : callF vt1 ih 35 [DV.agg
    [DV.int x0, DV.list false false 1 l1, DV.int x2, DV.list false false 1 l3, DV.int x4, DV.list false false 1 l5,
      DV.int x6, DV.list false false 1 l7]] =
  bindC (ih.call 55 [DV.agg [DV.int x0, DV.list false false 1 l1, DV.int x2, DV.list false false 1 l3]]) fun r0 =>
   (bif isRes [{ ag := true, css := [CS.int, CS.int] }, { ag := false, css := [CS.bool] }] r0 then
    bindC (ih.call 55 [DV.agg [DV.int x4, DV.list false false 1 l5, DV.int x6, DV.list false false 1 l7]]) fun r2 =>
     (bif isRes [{ ag := true, css := [CS.int, CS.int] }, { ag := false, css := [CS.bool] }] r2 then
      some (DV.agg
  [DV.int (asI (cellOf ((tupL r0).getD 0 DV.undef) 0)), DV.int (asI (cellOf ((tupL r0).getD 0 DV.undef) 1)),
    DV.int (asI (cellOf ((tupL r2).getD 0 DV.undef) 0)), DV.int (asI (cellOf ((tupL r2).getD 0 DV.undef) 1))])
     else none)
   else none) := by kernel_rfl
theorem e37 (ih : VIh) (l0 : List DV) (l1 : List DV) : callF vt1 ih 37 [DV.list true false 1 l0, DV.list true false 1 l1] =
  bindC (ih.call 34 [DV.list true false 1 l0]) fun r0 =>
   (bif isRes [{ ag := false, css := [CS.int] }] r0 then
    (bif !decide (asI r0 = 0) then
     some (DV.int (asI r0))
    else bindC (ih.call 34 [DV.list true false 1 l1]) fun r3 =>
      (bif isRes [{ ag := false, css := [CS.int] }] r3 then
       (bif !decide (asI r3 = 0) then
        some (DV.int (asI r3))
       else (bif !decide ((↑l0.length : Int) = (↑l1.length : Int)) then
         some (DV.int 13)
        else (bif okR l0 0 { ag := false, css := [CS.list 1] } then
          (bif okR l1 0 { ag := false, css := [CS.list 1] } then
           (bif !decide ((↑(asR (l0.getD 0 DV.undef)).length : Int) = (↑(asR (l1.getD 0 DV.undef)).length : Int)) then
            some (DV.int 13)
           else some (DV.int 0))
          else none)
         else none)))
      else none))
   else none) := by kernel_rfl
theorem e38 (ih : VIh) (l0 : List DV) (l1 : List DV) : callF vt1 ih 38 [DV.list true false 1 l0, DV.list true false 1 l1] =
  bindC (ih.call 36 [DV.list true false 1 l0]) fun r0 =>
   (bif isRes [{ ag := true, css := [CS.int, CS.list 1, CS.int, CS.list 1, CS.int, CS.list 1, CS.int, CS.list 1] }] r0 then
    bindC (ih.call 36 [DV.list true false 1 l1]) fun r2 =>
     (bif isRes [{ ag := true, css := [CS.int, CS.list 1, CS.int, CS.list 1, CS.int, CS.list 1, CS.int, CS.list 1] }] r2 then
      bindC (ih.call 65 [DV.agg
    [DV.int (asI (cellOf r2 0)), DV.list false false 1 (asR (cellOf r2 1)), DV.int (asI (cellOf r2 2)),
      DV.list false false 1 (asR (cellOf r2 3))],
  DV.agg
    [DV.int (asI (cellOf r0 0)), DV.list false false 1 (asR (cellOf r0 1)), DV.int (asI (cellOf r0 2)),
      DV.list false false 1 (asR (cellOf r0 3))]]) fun r4 =>
       (bif isRes [{ ag := true, css := [CS.int, CS.list 1, CS.int, CS.list 1] }] r4 then
        bindC (ih.call 65 [DV.agg
    [DV.int (asI (cellOf r2 4)), DV.list false false 1 (asR (cellOf r2 5)), DV.int (asI (cellOf r2 6)),
      DV.list false false 1 (asR (cellOf r2 7))],
  DV.agg
    [DV.int (asI (cellOf r0 4)), DV.list false false 1 (asR (cellOf r0 5)), DV.int (asI (cellOf r0 6)),
      DV.list false false 1 (asR (cellOf r0 7))]]) fun r6 =>
         (bif isRes [{ ag := true, css := [CS.int, CS.list 1, CS.int, CS.list 1] }] r6 then
          bindC (ih.call 35 [DV.agg
    [DV.int (asI (cellOf r4 0)), DV.list false false 1 (asR (cellOf r4 1)), DV.int (asI (cellOf r4 2)),
      DV.list false false 1 (asR (cellOf r4 3)), DV.int (asI (cellOf r6 0)), DV.list false false 1 (asR (cellOf r6 1)),
      DV.int (asI (cellOf r6 2)), DV.list false false 1 (asR (cellOf r6 3))]]) fun r8 =>
           (bif isRes [{ ag := true, css := [CS.int, CS.int, CS.int, CS.int] }] r8 then
            some (DV.agg [DV.int (asI (cellOf r8 0)), DV.int (asI (cellOf r8 1)), DV.int (asI (cellOf r8 2)), DV.int (asI (cellOf r8 3))])
           else none)
         else none)
       else none)
     else none)
   else none) := by kernel_rfl
theorem e30 (ih : VIh) (l0 : List DV) : callF vt1 ih 30 [DV.list true false 1 l0] =
  ih.at_ 30 0 (tblL [(0, DV.list true false 1 l0), (3, DV.int 0)]) [] := by kernel_rfl
theorem e30_0 (ih : VIh) (l0 : List DV) (x1 : Int) : atF vt1 ih 30 0 (tblL [(0, DV.list true false 1 l0), (3, DV.int x1)]) [] =
  (bif decide (x1 < (↑l0.length : Int)) then
   (bif okR l0 x1 { ag := false, css := [CS.list 1] } then
    (bif decide (12 < (↑(asR (l0.getD x1.toNat DV.undef)).length : Int)) then
     some (DV.bool false)
    else ih.at_ 30 0 (tblL [(0, DV.list true false 1 l0), (3, DV.int (w64 (x1 + 1)))]) [])
   else none)
  else some (DV.bool (decide ((↑l0.length : Int) ≤ 12)))) := by kernel_rfl
theorem e32 (ih : VIh) (l0 : List DV) : callF vt1 ih 32 [DV.list true false 1 l0] =
  ih.at_ 32 0 (tblL [(0, DV.list true false 1 l0), (3, DV.nils), (4, DV.int 0)]) [] := by kernel_rfl
theorem e32_0 (ih : VIh) (l0 : List DV) (x1 : Int) : atF vt1 ih 32 0 (tblL [(0, DV.list true false 1 l0), (3, DV.nils), (4, DV.int x1)]) [] =
  (bif decide (x1 < (↑l0.length : Int)) then
   (bif okR l0 x1 { ag := false, css := [CS.list 1] } then
    bindC (ih.call 17 [DV.list true false 1 (asR (l0.getD x1.toNat DV.undef))]) fun r2 =>
     (bif isRes [{ ag := false, css := [CS.list 1] }] r2 then
      ih.at_ 32 0 (tblL [(0, DV.list true false 1 l0), (3, DV.own 0), (4, DV.int (w64 (x1 + 1)))]) [.row true 1 ([DV.list false false 1 (asR r2)])]
     else none)
   else none)
  else some (DV.list false false 1 [])) := by kernel_rfl
theorem e32_0_1 (ih : VIh) (l0 : List DV) (x1 : Int) (l2 : List DV) : atF vt1 ih 32 0 (tblL [(0, DV.list true false 1 l0), (3, DV.own 0), (4, DV.int x1)]) [VB.row true 1 l2] =
  (bif decide (x1 < (↑l0.length : Int)) then
   (bif okR l0 x1 { ag := false, css := [CS.list 1] } then
    bindC (ih.call 17 [DV.list true false 1 (asR (l0.getD x1.toNat DV.undef))]) fun r2 =>
     (bif isRes [{ ag := false, css := [CS.list 1] }] r2 then
      (bif lenOk l2 [DV.list false false 1 (asR r2)] then
       ih.at_ 32 0 (tblL [(0, DV.list true false 1 l0), (3, DV.own 0), (4, DV.int (w64 (x1 + 1)))]) [.row true 1 (l2 ++ [DV.list false false 1 (asR r2)])]
      else none)
     else none)
   else none)
  else some (DV.list false false 1 l2)) := by kernel_rfl
theorem e5 (ih : VIh) (l0 : List DV) (l1 : List DV) : callF vt1 ih 5 [DV.list true false 1 l0, DV.list true false 1 l1] =
  bindC (ih.call 29 []) fun r0 =>
   (bif isRes [{ ag := false, css := [CS.bool] }] r0 then
    (bif !asB r0 then
     some (DV.bool false)
    else bindC (ih.call 30 [DV.list true false 1 l0]) fun r3 =>
      (bif isRes [{ ag := false, css := [CS.bool] }] r3 then
       (bif !asB r3 then
        some (DV.bool true)
       else bindC (ih.call 30 [DV.list true false 1 l1]) fun r6 =>
         (bif isRes [{ ag := false, css := [CS.bool] }] r6 then
          (bif !asB r6 then
           some (DV.bool true)
          else bindC (ih.call 32 [DV.list true false 1 l0]) fun r9 =>
            (bif isRes [{ ag := false, css := [CS.list 1] }] r9 then
            bindC (ih.call 31 [DV.list true false 1 (asR r9)]) fun r11 =>
            (bif isRes [{ ag := true, css := [CS.int, CS.int, CS.int, CS.int] }, { ag := false, css := [CS.int] }] r11 then
            bindC (ih.call 32 [DV.list true false 1 l0]) fun r13 =>
            (bif isRes [{ ag := false, css := [CS.list 1] }] r13 then
            bindC (ih.call 32 [DV.list true false 1 l1]) fun r15 =>
            (bif isRes [{ ag := false, css := [CS.list 1] }] r15 then
            bindC (ih.call 33 [DV.list true false 1 (asR r13), DV.list true false 1 (asR r15)]) fun r17 =>
            (bif isRes [{ ag := true, css := [CS.int, CS.int, CS.int, CS.int] }, { ag := false, css := [CS.int] }] r17 then
            bindC (ih.call 34 [DV.list true false 1 l0]) fun r19 =>
            (bif isRes [{ ag := false, css := [CS.int] }] r19 then
            (bif !decide (asI ((tupL r11).getD 1 DV.undef) = asI r19) then
            some (DV.bool false)
            else (bif !decide (asI r19 = 0) then
            (bif !(decide (asI (cellOf ((tupL r11).getD 0 DV.undef) 0) = 0) &&
    (decide (asI (cellOf ((tupL r11).getD 0 DV.undef) 1) = 0) &&
      (decide (asI (cellOf ((tupL r11).getD 0 DV.undef) 2) = 0) &&
        decide (asI (cellOf ((tupL r11).getD 0 DV.undef) 3) = 0)))) then
            some (DV.bool false)
            else (bif decide (asI r19 = 0) then
            bindC (ih.call 36 [DV.list true false 1 l0]) fun r25 =>
            (bif isRes [{ ag := true, css := [CS.int, CS.list 1, CS.int, CS.list 1, CS.int, CS.list 1, CS.int, CS.list 1] }] r25 then
            bindC (ih.call 35 [DV.agg
    [DV.int (asI (cellOf r25 0)), DV.list false false 1 (asR (cellOf r25 1)), DV.int (asI (cellOf r25 2)),
      DV.list false false 1 (asR (cellOf r25 3)), DV.int (asI (cellOf r25 4)),
      DV.list false false 1 (asR (cellOf r25 5)), DV.int (asI (cellOf r25 6)),
      DV.list false false 1 (asR (cellOf r25 7))]]) fun r27 =>
            (bif isRes [{ ag := true, css := [CS.int, CS.int, CS.int, CS.int] }] r27 then
            (bif !(decide (asI (cellOf ((tupL r11).getD 0 DV.undef) 0) = asI (cellOf r27 0)) &&
    (decide (asI (cellOf ((tupL r11).getD 0 DV.undef) 1) = asI (cellOf r27 1)) &&
      (decide (asI (cellOf ((tupL r11).getD 0 DV.undef) 2) = asI (cellOf r27 2)) &&
        decide (asI (cellOf ((tupL r11).getD 0 DV.undef) 3) = asI (cellOf r27 3))))) then
            some (DV.bool false)
            else bindC (ih.call 37 [DV.list true false 1 l0, DV.list true false 1 l1]) fun r30 =>
            (bif isRes [{ ag := false, css := [CS.int] }] r30 then
            (bif !decide (asI r30 = 0) then
            (bif decide (asI ((tupL r17).getD 1 DV.undef) = asI r30) then
            some (DV.bool
  (decide (asI (cellOf ((tupL r17).getD 0 DV.undef) 0) = 0) &&
    (decide (asI (cellOf ((tupL r17).getD 0 DV.undef) 1) = 0) &&
      (decide (asI (cellOf ((tupL r17).getD 0 DV.undef) 2) = 0) &&
        decide (asI (cellOf ((tupL r17).getD 0 DV.undef) 3) = 0)))))
            else some (DV.bool false))
            else (bif decide (asI ((tupL r17).getD 1 DV.undef) = 0) then
            bindC (ih.call 38 [DV.list true false 1 l0, DV.list true false 1 l1]) fun r35 =>
            (bif isRes [{ ag := true, css := [CS.int, CS.int, CS.int, CS.int] }] r35 then
            some (DV.bool
  (decide (asI (cellOf ((tupL r17).getD 0 DV.undef) 0) = asI (cellOf r35 0)) &&
    (decide (asI (cellOf ((tupL r17).getD 0 DV.undef) 1) = asI (cellOf r35 1)) &&
      (decide (asI (cellOf ((tupL r17).getD 0 DV.undef) 2) = asI (cellOf r35 2)) &&
        decide (asI (cellOf ((tupL r17).getD 0 DV.undef) 3) = asI (cellOf r35 3))))))
            else none)
            else some (DV.bool false)))
            else none))
            else none)
            else none)
            else bindC (ih.call 37 [DV.list true false 1 l0, DV.list true false 1 l1]) fun r37 =>
            (bif isRes [{ ag := false, css := [CS.int] }] r37 then
            (bif !decide (asI r37 = 0) then
            (bif decide (asI ((tupL r17).getD 1 DV.undef) = asI r37) then
            some (DV.bool
  (decide (asI (cellOf ((tupL r17).getD 0 DV.undef) 0) = 0) &&
    (decide (asI (cellOf ((tupL r17).getD 0 DV.undef) 1) = 0) &&
      (decide (asI (cellOf ((tupL r17).getD 0 DV.undef) 2) = 0) &&
        decide (asI (cellOf ((tupL r17).getD 0 DV.undef) 3) = 0)))))
            else some (DV.bool false))
            else (bif decide (asI ((tupL r17).getD 1 DV.undef) = 0) then
            bindC (ih.call 38 [DV.list true false 1 l0, DV.list true false 1 l1]) fun r42 =>
            (bif isRes [{ ag := true, css := [CS.int, CS.int, CS.int, CS.int] }] r42 then
            some (DV.bool
  (decide (asI (cellOf ((tupL r17).getD 0 DV.undef) 0) = asI (cellOf r42 0)) &&
    (decide (asI (cellOf ((tupL r17).getD 0 DV.undef) 1) = asI (cellOf r42 1)) &&
      (decide (asI (cellOf ((tupL r17).getD 0 DV.undef) 2) = asI (cellOf r42 2)) &&
        decide (asI (cellOf ((tupL r17).getD 0 DV.undef) 3) = asI (cellOf r42 3))))))
            else none)
            else some (DV.bool false)))
            else none)))
            else (bif decide (asI r19 = 0) then
            bindC (ih.call 36 [DV.list true false 1 l0]) fun r45 =>
            (bif isRes [{ ag := true, css := [CS.int, CS.list 1, CS.int, CS.list 1, CS.int, CS.list 1, CS.int, CS.list 1] }] r45 then
            bindC (ih.call 35 [DV.agg
    [DV.int (asI (cellOf r45 0)), DV.list false false 1 (asR (cellOf r45 1)), DV.int (asI (cellOf r45 2)),
      DV.list false false 1 (asR (cellOf r45 3)), DV.int (asI (cellOf r45 4)),
      DV.list false false 1 (asR (cellOf r45 5)), DV.int (asI (cellOf r45 6)),
      DV.list false false 1 (asR (cellOf r45 7))]]) fun r47 =>
            (bif isRes [{ ag := true, css := [CS.int, CS.int, CS.int, CS.int] }] r47 then
            (bif !(decide (asI (cellOf ((tupL r11).getD 0 DV.undef) 0) = asI (cellOf r47 0)) &&
    (decide (asI (cellOf ((tupL r11).getD 0 DV.undef) 1) = asI (cellOf r47 1)) &&
      (decide (asI (cellOf ((tupL r11).getD 0 DV.undef) 2) = asI (cellOf r47 2)) &&
        decide (asI (cellOf ((tupL r11).getD 0 DV.undef) 3) = asI (cellOf r47 3))))) then
            some (DV.bool false)
            else bindC (ih.call 37 [DV.list true false 1 l0, DV.list true false 1 l1]) fun r50 =>
            (bif isRes [{ ag := false, css := [CS.int] }] r50 then
            (bif !decide (asI r50 = 0) then
            (bif decide (asI ((tupL r17).getD 1 DV.undef) = asI r50) then
            some (DV.bool
  (decide (asI (cellOf ((tupL r17).getD 0 DV.undef) 0) = 0) &&
    (decide (asI (cellOf ((tupL r17).getD 0 DV.undef) 1) = 0) &&
      (decide (asI (cellOf ((tupL r17).getD 0 DV.undef) 2) = 0) &&
        decide (asI (cellOf ((tupL r17).getD 0 DV.undef) 3) = 0)))))
            else some (DV.bool false))
            else (bif decide (asI ((tupL r17).getD 1 DV.undef) = 0) then
            bindC (ih.call 38 [DV.list true false 1 l0, DV.list true false 1 l1]) fun r55 =>
            (bif isRes [{ ag := true, css := [CS.int, CS.int, CS.int, CS.int] }] r55 then
            some (DV.bool
  (decide (asI (cellOf ((tupL r17).getD 0 DV.undef) 0) = asI (cellOf r55 0)) &&
    (decide (asI (cellOf ((tupL r17).getD 0 DV.undef) 1) = asI (cellOf r55 1)) &&
      (decide (asI (cellOf ((tupL r17).getD 0 DV.undef) 2) = asI (cellOf r55 2)) &&
        decide (asI (cellOf ((tupL r17).getD 0 DV.undef) 3) = asI (cellOf r55 3))))))
            else none)
            else some (DV.bool false)))
            else none))
            else none)
            else none)
            else bindC (ih.call 37 [DV.list true false 1 l0, DV.list true false 1 l1]) fun r57 =>
            (bif isRes [{ ag := false, css := [CS.int] }] r57 then
            (bif !decide (asI r57 = 0) then
            (bif decide (asI ((tupL r17).getD 1 DV.undef) = asI r57) then
            some (DV.bool
  (decide (asI (cellOf ((tupL r17).getD 0 DV.undef) 0) = 0) &&
    (decide (asI (cellOf ((tupL r17).getD 0 DV.undef) 1) = 0) &&
      (decide (asI (cellOf ((tupL r17).getD 0 DV.undef) 2) = 0) &&
        decide (asI (cellOf ((tupL r17).getD 0 DV.undef) 3) = 0)))))
            else some (DV.bool false))
            else (bif decide (asI ((tupL r17).getD 1 DV.undef) = 0) then
            bindC (ih.call 38 [DV.list true false 1 l0, DV.list true false 1 l1]) fun r62 =>
            (bif isRes [{ ag := true, css := [CS.int, CS.int, CS.int, CS.int] }] r62 then
            some (DV.bool
  (decide (asI (cellOf ((tupL r17).getD 0 DV.undef) 0) = asI (cellOf r62 0)) &&
    (decide (asI (cellOf ((tupL r17).getD 0 DV.undef) 1) = asI (cellOf r62 1)) &&
      (decide (asI (cellOf ((tupL r17).getD 0 DV.undef) 2) = asI (cellOf r62 2)) &&
        decide (asI (cellOf ((tupL r17).getD 0 DV.undef) 3) = asI (cellOf r62 3))))))
            else none)
            else some (DV.bool false)))
            else none))))
            else none)
            else none)
            else none)
            else none)
            else none)
            else none))
         else none))
      else none))
   else none) := by kernel_rfl
theorem e122 (ih : VIh) (l0 : List DV) (x1 : Int) : callF vt1 ih 122 [DV.list true false 1 l0, DV.fbp true [DV.int x1] 0] =
  some (DV.bool !decide ((↑l0.length : Int) = x1)) := by kernel_rfl
theorem e121 (ih : VIh) (l0 : List DV) (x1 : Int) : callF vt1 ih 121 [DV.list true false 1 l0, DV.func 122 [] [DV.fbp true [DV.int x1] 0]] =
  bindC (ih.call 150 [DV.list true false 1 l0, DV.func 122 [] [DV.fbp true [DV.int x1] 0]]) fun r0 =>
   (bif isRes [{ ag := false, css := [CS.int] }] r0 then
    some (DV.bool (decide (0 ≤ asI r0)))
   else none) := by kernel_rfl
theorem e150 (ih : VIh) (l0 : List DV) (x1 : Int) : callF vt1 ih 150 [DV.list true false 1 l0, DV.func 122 [] [DV.fbp true [DV.int x1] 0]] =
  ih.at_ 150 0 (tblL [(0, DV.list true false 1 l0), (1, DV.func 122 [] [DV.fbp true [DV.int x1] 0]), (7, DV.int (↑l0.length : Int)), (8, DV.int 0)]) [] := by kernel_rfl
theorem e150_0 (ih : VIh) (l0 : List DV) (x1 : Int) (x2 : Int) (x3 : Int) : atF vt1 ih 150 0 (tblL [(0, DV.list true false 1 l0), (1, DV.func 122 [] [DV.fbp true [DV.int x1] 0]), (7, DV.int x2), (8, DV.int x3)]) [] =
  (bif decide (x3 < x2) then
   (bif okR l0 x3 { ag := false, css := [CS.list 1] } then
    bindC (ih.call 122 [DV.list true false 1 (asR (l0.getD x3.toNat DV.undef)), DV.fbp true [DV.int x1] 0]) fun r2 =>
     (bif isRes [{ ag := false, css := [CS.bool] }] r2 then
      (bif asB r2 then
       some (DV.int x3)
      else ih.at_ 150 0 (tblL [(0, DV.list true false 1 l0), (1, DV.func 122 [] [DV.fbp true [DV.int x1] 0]), (7, DV.int x2), (8, DV.int (w64 (x3 + 1)))]) [])
     else none)
   else none)
  else some (DV.int (-1))) := by kernel_rfl
theorem e56_123 (ih : VIh) (l0 : List DV) : callF vt1 ih 56 [DV.list true false 1 l0, DV.func 123 [] []] =
  bindC (ih.call 101 [DV.list true false 1 l0, DV.func 123 [] []]) fun r0 =>
   (bif isRes [{ ag := false, css := [CS.int] }] r0 then
    some (DV.bool (decide (0 ≤ asI r0)))
   else none) := by kernel_rfl
theorem e101_123 (ih : VIh) (l0 : List DV) : callF vt1 ih 101 [DV.list true false 1 l0, DV.func 123 [] []] =
  ih.at_ 101 0 (tblL [(0, DV.list true false 1 l0), (1, DV.func 123 [] []), (7, DV.int (↑l0.length : Int)), (8, DV.int 0)]) [] := by kernel_rfl
theorem e101_123_0 (ih : VIh) (l0 : List DV) (x1 : Int) (x2 : Int) : atF vt1 ih 101 0 (tblL [(0, DV.list true false 1 l0), (1, DV.func 123 [] []), (7, DV.int x1), (8, DV.int x2)]) [] =
  (bif decide (x2 < x1) then
   (bif okR l0 x2 { ag := false, css := [CS.int] } then
    bindC (ih.call 123 [DV.int (asI (l0.getD x2.toNat DV.undef))]) fun r2 =>
     (bif isRes [{ ag := false, css := [CS.bool] }] r2 then
      (bif asB r2 then
       some (DV.int x2)
      else ih.at_ 101 0 (tblL [(0, DV.list true false 1 l0), (1, DV.func 123 [] []), (7, DV.int x1), (8, DV.int (w64 (x2 + 1)))]) [])
     else none)
   else none)
  else some (DV.int (-1))) := by kernel_rfl
theorem e56_124 (ih : VIh) (l0 : List DV) : callF vt1 ih 56 [DV.list true false 1 l0, DV.func 124 [] []] =
  bindC (ih.call 101 [DV.list true false 1 l0, DV.func 124 [] []]) fun r0 =>
   (bif isRes [{ ag := false, css := [CS.int] }] r0 then
    some (DV.bool (decide (0 ≤ asI r0)))
   else none) := by kernel_rfl
theorem e101_124 (ih : VIh) (l0 : List DV) : callF vt1 ih 101 [DV.list true false 1 l0, DV.func 124 [] []] =
  ih.at_ 101 0 (tblL [(0, DV.list true false 1 l0), (1, DV.func 124 [] []), (7, DV.int (↑l0.length : Int)), (8, DV.int 0)]) [] := by kernel_rfl
theorem e101_124_0 (ih : VIh) (l0 : List DV) (x1 : Int) (x2 : Int) : atF vt1 ih 101 0 (tblL [(0, DV.list true false 1 l0), (1, DV.func 124 [] []), (7, DV.int x1), (8, DV.int x2)]) [] =
  (bif decide (x2 < x1) then
   (bif okR l0 x2 { ag := false, css := [CS.int] } then
    bindC (ih.call 124 [DV.int (asI (l0.getD x2.toNat DV.undef))]) fun r2 =>
     (bif isRes [{ ag := false, css := [CS.bool] }] r2 then
      (bif asB r2 then
       some (DV.int x2)
      else ih.at_ 101 0 (tblL [(0, DV.list true false 1 l0), (1, DV.func 124 [] []), (7, DV.int x1), (8, DV.int (w64 (x2 + 1)))]) [])
     else none)
   else none)
  else some (DV.int (-1))) := by kernel_rfl
end Go.Proofs
/- Equations of V for functions of the program: written by a program of this session (NF, NFg, gq). -/
namespace Go.Proofs
open Go Go.Sx Go.Vx
set_option maxRecDepth 100000
set_option maxHeartbeats 0
theorem e7 (ih : VIh) (l0 : List DV) (l1 : List DV) : callF vt1 ih 7 [DV.agg [DV.list true false 1 l0, DV.list true false 1 l1]] =
  (bif decide ((↑l0.length : Int) ≤ 6) then
   some (DV.bool (decide ((↑l1.length : Int) ≤ 6)))
  else some (DV.bool false)) := by kernel_rfl
theorem e9 (ih : VIh) (l0 : List DV) (l1 : List DV) : callF vt1 ih 9 [DV.agg [DV.list true false 1 l0, DV.list true false 1 l1]] =
  bindC (ih.call 17 [DV.list true false 1 l0]) fun r0 =>
   (bif isRes [{ ag := false, css := [CS.list 1] }] r0 then
    bindC (ih.call 17 [DV.list true false 1 l1]) fun r2 =>
     (bif isRes [{ ag := false, css := [CS.list 1] }] r2 then
      some (DV.agg [DV.list false false 1 (asR r0), DV.list false false 1 (asR r2)])
     else none)
   else none) := by kernel_rfl
theorem e8 (ih : VIh) (l0 : List DV) (l1 : List DV) : callF vt1 ih 8 [DV.agg [DV.list true false 1 l0, DV.list true false 1 l1]] =
  (bif decide (0 < (↑l0.length : Int)) then
   bindC (ih.call 45 [DV.bool (decide ((↑l1.length : Int) = (↑l0.length : Int))), DV.int 10]) fun r1 =>
    (bif isRes [{ ag := false, css := [CS.int] }] r1 then
     bindC (ih.call 45 [DV.bool (decide ((↑l0.length : Int) ≤ 4)), DV.int 8]) fun r3 =>
      (bif isRes [{ ag := false, css := [CS.int] }] r3 then
       bindC (ih.call 44 [DV.list true false 1 [DV.int (asI r1), DV.int (asI r3)]]) fun r5 =>
        (bif isRes [{ ag := false, css := [CS.int] }] r5 then
         (bif !decide (asI r5 = 0) then
          some (DV.tup [DV.int 0, DV.int (asI r5)])
         else ih.at_ 8 0 (tblL [(1, DV.ptr 0 0), (32, DV.list true false 1 l0), (33, DV.int (↑l0.length : Int)), (34, DV.int 0)]) [.box [DV.list true false 1 l0, DV.list true false 1 l1]])
        else none)
      else none)
    else none)
  else bindC (ih.call 45 [DV.bool false, DV.int 10]) fun r8 =>
    (bif isRes [{ ag := false, css := [CS.int] }] r8 then
     bindC (ih.call 45 [DV.bool (decide ((↑l0.length : Int) ≤ 4)), DV.int 8]) fun r10 =>
      (bif isRes [{ ag := false, css := [CS.int] }] r10 then
       bindC (ih.call 44 [DV.list true false 1 [DV.int (asI r8), DV.int (asI r10)]]) fun r12 =>
        (bif isRes [{ ag := false, css := [CS.int] }] r12 then
         (bif !decide (asI r12 = 0) then
          some (DV.tup [DV.int 0, DV.int (asI r12)])
         else ih.at_ 8 0 (tblL [(1, DV.ptr 0 0), (32, DV.list true false 1 l0), (33, DV.int (↑l0.length : Int)), (34, DV.int 0)]) [.box [DV.list true false 1 l0, DV.list true false 1 l1]])
        else none)
      else none)
    else none)) := by kernel_rfl
theorem e8_0 (ih : VIh) (l0 : List DV) (x1 : Int) (x2 : Int) (l3 : List DV) (l4 : List DV) : atF vt1 ih 8 0 (tblL [(1, DV.ptr 0 0), (32, DV.list true false 1 l0), (33, DV.int x1), (34, DV.int x2)]) [VB.box [DV.list true false 1 l3, DV.list true false 1 l4]] =
  (bif decide (x2 < x1) then
   (bif okR l0 x2 { ag := false, css := [CS.int] } then
    bindC (ih.call 46 [DV.int (asI (l0.getD x2.toNat DV.undef)), DV.int 1, DV.int 10]) fun r2 =>
     (bif isRes [{ ag := false, css := [CS.bool] }] r2 then
      (bif !asB r2 then
       some (DV.tup [DV.int x2, DV.int 2])
      else (bif okR l4 x2 { ag := false, css := [CS.int] } then
        bindC (ih.call 46 [DV.int (asI (l4.getD x2.toNat DV.undef)), DV.int 1, DV.int 20]) fun r6 =>
         (bif isRes [{ ag := false, css := [CS.bool] }] r6 then
          (bif !asB r6 then
           some (DV.tup [DV.int x2, DV.int 2])
          else ih.at_ 8 0 (tblL [(1, DV.ptr 0 0), (32, DV.list true false 1 l0), (33, DV.int x1), (34, DV.int (w64 (x2 + 1)))]) [.box [DV.list true false 1 l3, DV.list true false 1 l4]])
         else none)
       else none))
     else none)
   else none)
  else some (DV.tup [DV.int 0, DV.int 0])) := by kernel_rfl
theorem e45 (ih : VIh) (b0 : Bool) (x1 : Int) : callF vt1 ih 45 [DV.bool b0, DV.int x1] =
  (bif b0 then
   some (DV.int 0)
  else some (DV.int x1)) := by kernel_rfl
theorem e44 (ih : VIh) (l0 : List DV) : callF vt1 ih 44 [DV.list true false 1 l0] =
  ih.at_ 44 0 (tblL [(5, DV.list true false 1 l0), (6, DV.int (↑l0.length : Int)), (7, DV.int 0)]) [] := by kernel_rfl
theorem e44_0 (ih : VIh) (l0 : List DV) (x1 : Int) (x2 : Int) : atF vt1 ih 44 0 (tblL [(5, DV.list true false 1 l0), (6, DV.int x1), (7, DV.int x2)]) [] =
  (bif decide (x2 < x1) then
   (bif okR l0 x2 { ag := false, css := [CS.int] } then
    (bif !decide (asI (l0.getD x2.toNat DV.undef) = 0) then
     some (DV.int (asI (l0.getD x2.toNat DV.undef)))
    else ih.at_ 44 0 (tblL [(5, DV.list true false 1 l0), (6, DV.int x1), (7, DV.int (w64 (x2 + 1)))]) [])
   else none)
  else some (DV.int 0)) := by kernel_rfl
theorem e46 (ih : VIh) (x0 : Int) (x1 : Int) (x2 : Int) : callF vt1 ih 46 [DV.int x0, DV.int x1, DV.int x2] =
  (bif decide (x1 ≤ x0) then
   some (DV.bool (decide (x0 ≤ x2)))
  else some (DV.bool false)) := by kernel_rfl
theorem e10 (ih : VIh) (l0 : List DV) (l1 : List DV) : callF vt1 ih 10 [DV.agg [DV.list false false 1 l0, DV.list false false 1 l1]] =
  bindC (ih.call 47 [DV.agg [DV.list false false 1 l0, DV.list false false 1 l1]]) fun r0 =>
   (bif isRes [{ ag := true, css := [CS.list 1, CS.list 1] }, { ag := false, css := [CS.int] }] r0 then
    (bif !decide (asI ((tupL r0).getD 1 DV.undef) = 0) then
     some (DV.tup [DV.list false false 1 [], DV.int (asI ((tupL r0).getD 1 DV.undef))])
    else ih.at_ 10 0 (tblL [(4, DV.ptr 0 0), (6, DV.own 1), (7, DV.own 2), (26, DV.list false false 1 (asR (cellOf ((tupL r0).getD 0 DV.undef) 1))), (27, DV.int (↑(asR (cellOf ((tupL r0).getD 0 DV.undef) 1)).length : Int)), (28, DV.int 0)]) [.box [DV.list false false 1 (asR (cellOf ((tupL r0).getD 0 DV.undef) 0)),
  DV.list false false 1 (asR (cellOf ((tupL r0).getD 0 DV.undef) 1))], .row false 1 ([DV.int 0]), .row false 1 ([DV.int 1])])
   else none) := by kernel_rfl
theorem e10_0 (ih : VIh) (l0 : List DV) (x1 : Int) (x2 : Int) (l3 : List DV) (l4 : List DV) (l5 : List DV) (l6 : List DV) : atF vt1 ih 10 0 (tblL [(4, DV.ptr 0 0), (6, DV.own 1), (7, DV.own 2), (26, DV.list false false 1 l0), (27, DV.int x1), (28, DV.int x2)]) [VB.box [DV.list false false 1 l3, DV.list false false 1 l4], VB.row false 1 l5, VB.row false 1 l6] =
  (bif decide (x2 < x1) then
   (bif okR l0 x2 { ag := false, css := [CS.int] } then
    (bif decide (0 ≤ w64 ((↑l6.length : Int) + 1)) && decide (w64 ((↑l6.length : Int) + 1) = w64 ((↑l6.length : Int) + 1)) &&
  decide (w64 ((↑l6.length : Int) + 1) ≤ 1048576) then
     ih.at_ 10 1 (tblL [(4, DV.ptr 0 0), (6, DV.own 1), (7, DV.own 2), (8, DV.int x2), (9, DV.int (asI (l0.getD x2.toNat DV.undef))), (10, DV.own 3), (26, DV.list false false 1 l0), (27, DV.int x1), (28, DV.int x2), (37, DV.own 2), (38, DV.int (↑l6.length : Int)), (39, DV.int 0)]) [.box [DV.list false false 1 l3, DV.list false false 1 l4], .row false 1 (l5), .row false 1 (l6), .row false 1 (List.replicate (w64 ((↑l6.length : Int) + 1)).toNat (DV.int 0))]
    else none)
   else none)
  else some (DV.tup [DV.list false false 1 l6, DV.int 0])) := by kernel_rfl
theorem e10_1 (ih : VIh) (x0 : Int) (x1 : Int) (l2 : List DV) (x3 : Int) (x4 : Int) (x5 : Int) (x6 : Int) (l7 : List DV) (l8 : List DV) (l9 : List DV) (l10 : List DV) (l11 : List DV) : atF vt1 ih 10 1 (tblL [(4, DV.ptr 0 0), (6, DV.own 1), (7, DV.own 2), (8, DV.int x0), (9, DV.int x1), (10, DV.own 3), (26, DV.list false false 1 l2), (27, DV.int x3), (28, DV.int x4), (37, DV.own 2), (38, DV.int x5), (39, DV.int x6)]) [VB.box [DV.list false false 1 l7, DV.list false false 1 l8], VB.row false 1 l9, VB.row false 1 l10, VB.row false 1 l11] =
  (bif decide (x6 < x5) then
   (bif inR x6 l10 then
    (bif isRow { ag := false, css := [CS.int] } (l10.getD x6.toNat DV.undef) then
     (bif inR x6 l11 then
      (bif isRow { ag := false, css := [CS.int] } (l11.getD x6.toNat DV.undef) then
       bindC (ih.call 48 [DV.agg [DV.list true false 1 l7, DV.list true false 1 l8], DV.int x0]) fun r5 =>
        (bif isRes [{ ag := false, css := [CS.int] }] r5 then
         (bif inR x6 l11 then
          (bif inR (w64 (x6 + 1))
  (l11.set x6.toNat
    (DV.int (w64 (asI (l11.getD x6.toNat DV.undef) + w64 (w64 (x1 + asI r5) * asI (l10.getD x6.toNat DV.undef)))))) then
           (bif isRow { ag := false, css := [CS.int] }
  ((l11.set x6.toNat
        (DV.int
          (w64 (asI (l11.getD x6.toNat DV.undef) + w64 (w64 (x1 + asI r5) * asI (l10.getD x6.toNat DV.undef)))))).getD
    (w64 (x6 + 1)).toNat DV.undef) then
            (bif okR l7 x0 { ag := false, css := [CS.int] } then
            (bif inR (w64 (x6 + 1))
  (l11.set x6.toNat
    (DV.int (w64 (asI (l11.getD x6.toNat DV.undef) + w64 (w64 (x1 + asI r5) * asI (l10.getD x6.toNat DV.undef)))))) then
            ih.at_ 10 1 (tblL [(4, DV.ptr 0 0), (6, DV.own 1), (7, DV.own 2), (8, DV.int x0), (9, DV.int x1), (10, DV.own 3), (26, DV.list false false 1 l2), (27, DV.int x3), (28, DV.int x4), (37, DV.own 2), (38, DV.int x5), (39, DV.int (w64 (x6 + 1)))]) [.box [DV.list false false 1 l7, DV.list false false 1 l8], .row false 1 (l9), .row false 1 (l10), .row false 1 ((l11.set x6.toNat
      (DV.int
        (w64 (asI (l11.getD x6.toNat DV.undef) + w64 (w64 (x1 + asI r5) * asI (l10.getD x6.toNat DV.undef)))))).set
  (w64 (x6 + 1)).toNat
  (DV.int
    (w64
      (asI
          ((l11.set x6.toNat
            (DV.int
            (w64
            (asI (l11.getD x6.toNat DV.undef) +
            w64 (w64 (x1 + asI r5) * asI (l10.getD x6.toNat DV.undef)))))).getD
            (w64 (x6 + 1)).toNat DV.undef) -
        w64 (asI (l7.getD x0.toNat DV.undef) * asI (l10.getD x6.toNat DV.undef))))))]
            else none)
            else none)
           else none)
          else none)
         else none)
        else none)
      else none)
     else none)
    else none)
   else none)
  else (bif decide (0 < x0) then
    ih.at_ 10 2 (tblL [(4, DV.ptr 0 0), (7, DV.own 1), (9, DV.int x1), (10, DV.own 2), (26, DV.list false false 1 l2), (27, DV.int x3), (28, DV.int x4), (74, DV.own 3), (75, DV.int (↑l9.length : Int)), (76, DV.int 0)]) [.box [DV.list false false 1 l7, DV.list false false 1 l8], .row false 1 (l10), .row false 1 (l11), .row false 1 (l9)]
   else ih.at_ 10 0 (tblL [(4, DV.ptr 0 0), (6, DV.own 1), (7, DV.own 2), (26, DV.list false false 1 l2), (27, DV.int x3), (28, DV.int (w64 (x4 + 1)))]) [.box [DV.list false false 1 l7, DV.list false false 1 l8], .row false 1 (l10), .row false 1 (l11)])) := by kernel_rfl
theorem e10_2 (ih : VIh) (x0 : Int) (l1 : List DV) (x2 : Int) (x3 : Int) (x4 : Int) (x5 : Int) (l6 : List DV) (l7 : List DV) (l8 : List DV) (l9 : List DV) (l10 : List DV) : atF vt1 ih 10 2 (tblL [(4, DV.ptr 0 0), (7, DV.own 1), (9, DV.int x0), (10, DV.own 2), (26, DV.list false false 1 l1), (27, DV.int x2), (28, DV.int x3), (74, DV.own 3), (75, DV.int x4), (76, DV.int x5)]) [VB.box [DV.list false false 1 l6, DV.list false false 1 l7], VB.row false 1 l8, VB.row false 1 l9, VB.row false 1 l10] =
  (bif decide (x5 < x4) then
   (bif inR x5 l10 then
    (bif isRow { ag := false, css := [CS.int] } (l10.getD x5.toNat DV.undef) then
     (bif inR x5 l9 then
      (bif isRow { ag := false, css := [CS.int] } (l9.getD x5.toNat DV.undef) then
       (bif inR x5 l9 then
        ih.at_ 10 2 (tblL [(4, DV.ptr 0 0), (7, DV.own 1), (9, DV.int x0), (10, DV.own 2), (26, DV.list false false 1 l1), (27, DV.int x2), (28, DV.int x3), (74, DV.own 3), (75, DV.int x4), (76, DV.int (w64 (x5 + 1)))]) [.box [DV.list false false 1 l6, DV.list false false 1 l7], .row false 1 (l8), .row false 1 (l9.set x5.toNat
  (DV.int (w64 (asI (l9.getD x5.toNat DV.undef) - w64 (w64 (x0 * x0) * asI (l10.getD x5.toNat DV.undef)))))), .row false 1 (l10)]
       else none)
      else none)
     else none)
    else none)
   else none)
  else ih.at_ 10 0 (tblL [(4, DV.ptr 0 0), (6, DV.own 1), (7, DV.own 2), (26, DV.list false false 1 l1), (27, DV.int x2), (28, DV.int (w64 (x3 + 1)))]) [.box [DV.list false false 1 l6, DV.list false false 1 l7], .row false 1 (l8), .row false 1 (l9)]) := by kernel_rfl
theorem e47 (ih : VIh) (l0 : List DV) (l1 : List DV) : callF vt1 ih 47 [DV.agg [DV.list false false 1 l0, DV.list false false 1 l1]] =
  bindC (ih.call 8 [DV.agg [DV.list true false 1 l0, DV.list true false 1 l1]]) fun r0 =>
   (bif isRes [{ ag := false, css := [CS.int] }, { ag := false, css := [CS.int] }] r0 then
    some (DV.tup [DV.agg [DV.list false false 1 l0, DV.list false false 1 l1], DV.int (asI ((tupL r0).getD 1 DV.undef))])
   else none) := by kernel_rfl
theorem e48 (ih : VIh) (l0 : List DV) (l1 : List DV) (x2 : Int) : callF vt1 ih 48 [DV.agg [DV.list true false 1 l0, DV.list true false 1 l1], DV.int x2] =
  (bif decide (w64 (x2 + 1) < (↑l1.length : Int)) then
   (bif okR l1 (w64 (x2 + 1)) { ag := false, css := [CS.int] } then
    some (DV.int (asI (l1.getD (w64 (x2 + 1)).toNat DV.undef)))
   else none)
  else some (DV.int 0)) := by kernel_rfl
theorem e11 (ih : VIh) (l0 : List DV) (l1 : List DV) : callF vt1 ih 11 [DV.agg [DV.list false false 1 l0, DV.list false false 1 l1]] =
  bindC (ih.call 47 [DV.agg [DV.list false false 1 l0, DV.list false false 1 l1]]) fun r0 =>
   (bif isRes [{ ag := true, css := [CS.list 1, CS.list 1] }, { ag := false, css := [CS.int] }] r0 then
    (bif !decide (asI ((tupL r0).getD 1 DV.undef) = 0) then
     some (DV.tup [DV.agg [DV.int 0, DV.int 0], DV.int (asI ((tupL r0).getD 1 DV.undef))])
    else ih.at_ 11 0 (tblL [(2, DV.ptr 0 0), (4, DV.ptr 1 0), (6, DV.ptr 2 0), (20, DV.list false false 1 (asR (cellOf ((tupL r0).getD 0 DV.undef) 0))), (21, DV.int (↑(asR (cellOf ((tupL r0).getD 0 DV.undef) 0)).length : Int)), (22, DV.int 0)]) [.box [DV.int 0, DV.int 0], .box [DV.list false false 1 (asR (cellOf ((tupL r0).getD 0 DV.undef) 0)),
  DV.list false false 1 (asR (cellOf ((tupL r0).getD 0 DV.undef) 1))], .box [DV.int 0, DV.int 1]])
   else none) := by kernel_rfl
theorem e11_0 (ih : VIh) (l0 : List DV) (x1 : Int) (x2 : Int) (x3 : Int) (x4 : Int) (l5 : List DV) (l6 : List DV) (x7 : Int) (x8 : Int) : atF vt1 ih 11 0 (tblL [(2, DV.ptr 0 0), (4, DV.ptr 1 0), (6, DV.ptr 2 0), (20, DV.list false false 1 l0), (21, DV.int x1), (22, DV.int x2)]) [VB.box [DV.int x3, DV.int x4], VB.box [DV.list false false 1 l5, DV.list false false 1 l6], VB.box [DV.int x7, DV.int x8]] =
  (bif decide (x2 < x1) then
   (bif okR l0 x2 { ag := false, css := [CS.int] } then
    (bif okR l6 x2 { ag := false, css := [CS.int] } then
     bindC (ih.call 48 [DV.agg [DV.list true false 1 l5, DV.list true false 1 l6], DV.int x2]) fun r3 =>
      (bif isRes [{ ag := false, css := [CS.int] }] r3 then
       bindC (ih.call 49 [DV.int (w64 (w64 (x7 * asI (l0.getD x2.toNat DV.undef)) + w64 (w64 (asI (l6.getD x2.toNat DV.undef) + asI r3) * x8))),
  DV.int (w64 (x8 * asI (l0.getD x2.toNat DV.undef)))]) fun r5 =>
        (bif isRes [{ ag := true, css := [CS.int, CS.int] }] r5 then
         ih.at_ 11 0 (tblL [(2, DV.ptr 0 0), (4, DV.ptr 1 0), (6, DV.ptr 2 0), (20, DV.list false false 1 l0), (21, DV.int x1), (22, DV.int (w64 (x2 + 1)))]) [.box [DV.int x3, DV.int x4], .box [DV.list false false 1 l5, DV.list false false 1 l6], .box [DV.int (asI (cellOf r5 0)), DV.int (asI (cellOf r5 1))]]
        else none)
      else none)
    else none)
   else none)
  else some (DV.tup [DV.agg [DV.int x7, DV.int x8], DV.int 0])) := by kernel_rfl
theorem e49 (ih : VIh) (x0 : Int) (x1 : Int) : callF vt1 ih 49 [DV.int x0, DV.int x1] =
  bindC (ih.call 94 [DV.list true false 1 [DV.int x0, DV.int x1]]) fun r0 =>
   (bif isRes [{ ag := false, css := [CS.int] }] r0 then
    (bif decide (asI r0 = 0) then
     none
    else (bif decide (asI r0 = 0) then
      none
     else some (DV.agg [DV.int (w64 (x0.tdiv (asI r0))), DV.int (w64 (x1.tdiv (asI r0)))])))
   else none) := by kernel_rfl
theorem e94 (ih : VIh) (l0 : List DV) : callF vt1 ih 94 [DV.list true false 1 l0] =
  ih.at_ 94 0 (tblL [(3, DV.int 0), (6, DV.list true false 1 l0), (7, DV.int (↑l0.length : Int)), (8, DV.int 0)]) [] := by kernel_rfl
theorem e94_0 (ih : VIh) (x0 : Int) (l1 : List DV) (x2 : Int) (x3 : Int) : atF vt1 ih 94 0 (tblL [(3, DV.int x0), (6, DV.list true false 1 l1), (7, DV.int x2), (8, DV.int x3)]) [] =
  (bif decide (x3 < x2) then
   (bif okR l1 x3 { ag := false, css := [CS.int] } then
    ih.at_ 94 1 (tblL [(3, DV.int x0), (5, DV.int (asI (l1.getD x3.toNat DV.undef))), (6, DV.list true false 1 l1), (7, DV.int x2), (8, DV.int x3)]) []
   else none)
  else some (DV.int (max x0 (w64 (0 - x0))))) := by kernel_rfl
theorem e94_1 (ih : VIh) (x0 : Int) (x1 : Int) (l2 : List DV) (x3 : Int) (x4 : Int) : atF vt1 ih 94 1 (tblL [(3, DV.int x0), (5, DV.int x1), (6, DV.list true false 1 l2), (7, DV.int x3), (8, DV.int x4)]) [] =
  (bif !decide (x1 = 0) then
   (bif decide (x1 = 0) then
    none
   else ih.at_ 94 1 (tblL [(3, DV.int x1), (5, DV.int (x0.tmod x1)), (6, DV.list true false 1 l2), (7, DV.int x3), (8, DV.int x4)]) [])
  else ih.at_ 94 0 (tblL [(3, DV.int x0), (6, DV.list true false 1 l2), (7, DV.int x3), (8, DV.int (w64 (x4 + 1)))]) []) := by kernel_rfl
theorem e12 (ih : VIh) (l0 : List DV) (l1 : List DV) : callF vt1 ih 12 [DV.agg [DV.list true false 1 l0, DV.list true false 1 l1]] =
  (bif decide ((↑l0.length : Int) = 0) then
   some (DV.tup [DV.int 0, DV.int 10])
  else (bif !decide ((↑l1.length : Int) = (↑l0.length : Int)) then
    some (DV.tup [DV.int 0, DV.int 10])
   else (bif decide (4 < (↑l0.length : Int)) then
     some (DV.tup [DV.int 0, DV.int 8])
    else ih.at_ 12 0 (tblL [(1, DV.ptr 0 0), (4, DV.int 0)]) [.box [DV.list true false 1 l0, DV.list true false 1 l1]]))) := by kernel_rfl
theorem e12_0 (ih : VIh) (x0 : Int) (l1 : List DV) (l2 : List DV) : atF vt1 ih 12 0 (tblL [(1, DV.ptr 0 0), (4, DV.int x0)]) [VB.box [DV.list true false 1 l1, DV.list true false 1 l2]] =
  (bif decide (x0 < (↑l1.length : Int)) then
   (bif okR l1 x0 { ag := false, css := [CS.int] } then
    bindC (ih.call 50 [DV.int (asI (l1.getD x0.toNat DV.undef)), DV.int 1, DV.int 10]) fun r2 =>
     (bif isRes [{ ag := false, css := [CS.bool] }] r2 then
      (bif !asB r2 then
       some (DV.tup [DV.int x0, DV.int 2])
      else (bif okR l2 x0 { ag := false, css := [CS.int] } then
        bindC (ih.call 50 [DV.int (asI (l2.getD x0.toNat DV.undef)), DV.int 1, DV.int 20]) fun r6 =>
         (bif isRes [{ ag := false, css := [CS.bool] }] r6 then
          (bif !asB r6 then
           some (DV.tup [DV.int x0, DV.int 2])
          else ih.at_ 12 0 (tblL [(1, DV.ptr 0 0), (4, DV.int (w64 (x0 + 1)))]) [.box [DV.list true false 1 l1, DV.list true false 1 l2]])
         else none)
       else none))
     else none)
   else none)
  else some (DV.tup [DV.int 0, DV.int 0])) := by kernel_rfl
theorem e14 (ih : VIh) (l0 : List DV) (l1 : List DV) : callF vt1 ih 14 [DV.agg [DV.list true false 1 l0, DV.list true false 1 l1]] =
  ih.at_ 14 0 (tblL [(1, DV.ptr 0 0), (3, DV.own 1), (4, DV.own 2), (5, DV.int 0)]) [.box [DV.list true false 1 l0, DV.list true false 1 l1], .row false 1 ([DV.int 1]), .row false 1 ([DV.int 0])] := by kernel_rfl
theorem e14_0 (ih : VIh) (x0 : Int) (l1 : List DV) (l2 : List DV) (l3 : List DV) (l4 : List DV) : atF vt1 ih 14 0 (tblL [(1, DV.ptr 0 0), (3, DV.own 1), (4, DV.own 2), (5, DV.int x0)]) [VB.box [DV.list true false 1 l1, DV.list true false 1 l2], VB.row false 1 l3, VB.row false 1 l4] =
  (bif decide (x0 < (↑l1.length : Int)) then
   (bif decide (0 ≤ w64 ((↑l3.length : Int) + 1)) && decide (w64 ((↑l3.length : Int) + 1) = w64 ((↑l3.length : Int) + 1)) &&
  decide (w64 ((↑l3.length : Int) + 1) ≤ 1048576) then
    ih.at_ 14 1 (tblL [(1, DV.ptr 0 0), (3, DV.own 1), (4, DV.own 2), (5, DV.int x0), (6, DV.own 3), (7, DV.int 0)]) [.box [DV.list true false 1 l1, DV.list true false 1 l2], .row false 1 (l3), .row false 1 (l4), .row false 1 (List.replicate (w64 ((↑l3.length : Int) + 1)).toNat (DV.int 0))]
   else none)
  else some (DV.list false false 1 l3)) := by kernel_rfl
theorem e14_1 (ih : VIh) (x0 : Int) (x1 : Int) (l2 : List DV) (l3 : List DV) (l4 : List DV) (l5 : List DV) (l6 : List DV) : atF vt1 ih 14 1 (tblL [(1, DV.ptr 0 0), (3, DV.own 1), (4, DV.own 2), (5, DV.int x0), (6, DV.own 3), (7, DV.int x1)]) [VB.box [DV.list true false 1 l2, DV.list true false 1 l3], VB.row false 1 l4, VB.row false 1 l5, VB.row false 1 l6] =
  (bif decide (x1 < (↑l4.length : Int)) then
   (bif inR x1 l6 then
    (bif isRow { ag := false, css := [CS.int] } (l6.getD x1.toNat DV.undef) then
     bindC (ih.call 51 [DV.agg [DV.list true false 1 l2, DV.list true false 1 l3], DV.int x0]) fun r3 =>
      (bif isRes [{ ag := false, css := [CS.int] }] r3 then
       (bif inR x1 l4 then
        (bif isRow { ag := false, css := [CS.int] } (l4.getD x1.toNat DV.undef) then
         (bif inR x1 l6 then
          (bif inR (w64 (x1 + 1))
  (l6.set x1.toNat (DV.int (w64 (asI (l6.getD x1.toNat DV.undef) + w64 (asI r3 * asI (l4.getD x1.toNat DV.undef)))))) then
           (bif isRow { ag := false, css := [CS.int] }
  ((l6.set x1.toNat
        (DV.int (w64 (asI (l6.getD x1.toNat DV.undef) + w64 (asI r3 * asI (l4.getD x1.toNat DV.undef)))))).getD
    (w64 (x1 + 1)).toNat DV.undef) then
            (bif okR l2 x0 { ag := false, css := [CS.int] } then
            (bif inR x1 l4 then
            (bif isRow { ag := false, css := [CS.int] } (l4.getD x1.toNat DV.undef) then
            (bif inR (w64 (x1 + 1))
  (l6.set x1.toNat (DV.int (w64 (asI (l6.getD x1.toNat DV.undef) + w64 (asI r3 * asI (l4.getD x1.toNat DV.undef)))))) then
            ih.at_ 14 1 (tblL [(1, DV.ptr 0 0), (3, DV.own 1), (4, DV.own 2), (5, DV.int x0), (6, DV.own 3), (7, DV.int (w64 (x1 + 1)))]) [.box [DV.list true false 1 l2, DV.list true false 1 l3], .row false 1 (l4), .row false 1 (l5), .row false 1 ((l6.set x1.toNat (DV.int (w64 (asI (l6.getD x1.toNat DV.undef) + w64 (asI r3 * asI (l4.getD x1.toNat DV.undef)))))).set
  (w64 (x1 + 1)).toNat
  (DV.int
    (w64
      (asI
          ((l6.set x1.toNat
            (DV.int (w64 (asI (l6.getD x1.toNat DV.undef) + w64 (asI r3 * asI (l4.getD x1.toNat DV.undef)))))).getD
            (w64 (x1 + 1)).toNat DV.undef) -
        w64 (asI (l2.getD x0.toNat DV.undef) * asI (l4.getD x1.toNat DV.undef))))))]
            else none)
            else none)
            else none)
            else none)
           else none)
          else none)
         else none)
        else none)
       else none)
      else none)
    else none)
   else none)
  else ih.at_ 14 2 (tblL [(1, DV.ptr 0 0), (3, DV.own 1), (4, DV.own 2), (5, DV.int x0), (6, DV.own 3), (8, DV.int 0)]) [.box [DV.list true false 1 l2, DV.list true false 1 l3], .row false 1 (l4), .row false 1 (l5), .row false 1 (l6)]) := by kernel_rfl
theorem e14_2 (ih : VIh) (x0 : Int) (x1 : Int) (l2 : List DV) (l3 : List DV) (l4 : List DV) (l5 : List DV) (l6 : List DV) : atF vt1 ih 14 2 (tblL [(1, DV.ptr 0 0), (3, DV.own 1), (4, DV.own 2), (5, DV.int x0), (6, DV.own 3), (8, DV.int x1)]) [VB.box [DV.list true false 1 l2, DV.list true false 1 l3], VB.row false 1 l4, VB.row false 1 l5, VB.row false 1 l6] =
  (bif decide (x1 < (↑l5.length : Int)) then
   (bif decide (0 < x0) then
    (bif inR x1 l6 then
     (bif isRow { ag := false, css := [CS.int] } (l6.getD x1.toNat DV.undef) then
      (bif okR l3 x0 { ag := false, css := [CS.int] } then
       (bif okR l3 x0 { ag := false, css := [CS.int] } then
        (bif inR x1 l5 then
         (bif isRow { ag := false, css := [CS.int] } (l5.getD x1.toNat DV.undef) then
          (bif inR x1 l6 then
           ih.at_ 14 2 (tblL [(1, DV.ptr 0 0), (3, DV.own 1), (4, DV.own 2), (5, DV.int x0), (6, DV.own 3), (8, DV.int (w64 (x1 + 1)))]) [.box [DV.list true false 1 l2, DV.list true false 1 l3], .row false 1 (l4), .row false 1 (l5), .row false 1 (l6.set x1.toNat
  (DV.int
    (w64
      (asI (l6.getD x1.toNat DV.undef) -
        w64
          (w64 (asI (l3.getD x0.toNat DV.undef) * asI (l3.getD x0.toNat DV.undef)) * asI (l5.getD x1.toNat DV.undef))))))]
          else none)
         else none)
        else none)
       else none)
      else none)
     else none)
    else none)
   else ih.at_ 14 0 (tblL [(1, DV.ptr 0 0), (3, DV.own 1), (4, DV.own 2), (5, DV.int (w64 (x0 + 1)))]) [.box [DV.list true false 1 l2, DV.list true false 1 l3], .row false 1 (l6), .row false 1 (l4)])
  else ih.at_ 14 0 (tblL [(1, DV.ptr 0 0), (3, DV.own 1), (4, DV.own 2), (5, DV.int (w64 (x0 + 1)))]) [.box [DV.list true false 1 l2, DV.list true false 1 l3], .row false 1 (l6), .row false 1 (l4)]) := by kernel_rfl
theorem e51 (ih : VIh) (l0 : List DV) (l1 : List DV) (x2 : Int) : callF vt1 ih 51 [DV.agg [DV.list true false 1 l0, DV.list true false 1 l1], DV.int x2] =
  (bif decide (w64 (x2 + 1) < (↑l1.length : Int)) then
   (bif okR l1 x2 { ag := false, css := [CS.int] } then
    (bif okR l1 (w64 (x2 + 1)) { ag := false, css := [CS.int] } then
     some (DV.int (w64 (asI (l1.getD x2.toNat DV.undef) + asI (l1.getD (w64 (x2 + 1)).toNat DV.undef))))
    else none)
   else none)
  else (bif okR l1 x2 { ag := false, css := [CS.int] } then
    some (DV.int (asI (l1.getD x2.toNat DV.undef)))
   else none)) := by kernel_rfl
theorem e15 (ih : VIh) (l0 : List DV) (l1 : List DV) : callF vt1 ih 15 [DV.agg [DV.list true false 1 l0, DV.list true false 1 l1]] =
  bindC (ih.call 52 [DV.int 0]) fun r0 =>
   (bif isRes [{ ag := true, css := [CS.int, CS.list 1, CS.int, CS.list 1] }] r0 then
    ih.at_ 15 0 (tblL [(1, DV.ptr 0 0), (2, DV.ptr 1 0), (3, DV.ptr 2 0), (4, DV.int 0)]) [.box [DV.list true false 1 l0, DV.list true false 1 l1], .box [DV.int 0, DV.int 0], .box [DV.int (asI (cellOf r0 0)), DV.list false false 1 (asR (cellOf r0 1)), DV.int (asI (cellOf r0 2)),
  DV.list false false 1 (asR (cellOf r0 3))]]
   else none) := by kernel_rfl
theorem e15_0 (ih : VIh) (x0 : Int) (l1 : List DV) (l2 : List DV) (x3 : Int) (x4 : Int) (x5 : Int) (l6 : List DV) (x7 : Int) (l8 : List DV) : atF vt1 ih 15 0 (tblL [(1, DV.ptr 0 0), (2, DV.ptr 1 0), (3, DV.ptr 2 0), (4, DV.int x0)]) [VB.box [DV.list true false 1 l1, DV.list true false 1 l2], VB.box [DV.int x3, DV.int x4], VB.box [DV.int x5, DV.list false false 1 l6, DV.int x7, DV.list false false 1 l8]] =
  (bif decide (x0 < (↑l1.length : Int)) then
   bindC (ih.call 51 [DV.agg [DV.list true false 1 l1, DV.list true false 1 l2], DV.int x0]) fun r1 =>
    (bif isRes [{ ag := false, css := [CS.int] }] r1 then
     (bif okR l1 x0 { ag := false, css := [CS.int] } then
      bindC (ih.call 54 [DV.int (asI r1), DV.int (asI (l1.getD x0.toNat DV.undef))]) fun r4 =>
       (bif isRes [{ ag := true, css := [CS.int, CS.list 1, CS.int, CS.list 1] }] r4 then
        bindC (ih.call 53 [DV.agg [DV.int x5, DV.list false false 1 l6, DV.int x7, DV.list false false 1 l8],
  DV.agg
    [DV.int (asI (cellOf r4 0)), DV.list false false 1 (asR (cellOf r4 1)), DV.int (asI (cellOf r4 2)),
      DV.list false false 1 (asR (cellOf r4 3))]]) fun r6 =>
         (bif isRes [{ ag := true, css := [CS.int, CS.list 1, CS.int, CS.list 1] }] r6 then
          ih.at_ 15 0 (tblL [(1, DV.ptr 0 0), (2, DV.ptr 1 0), (3, DV.ptr 2 0), (4, DV.int (w64 (x0 + 1)))]) [.box [DV.list true false 1 l1, DV.list true false 1 l2], .box [DV.int x3, DV.int x4], .box [DV.int (asI (cellOf r6 0)), DV.list false false 1 (asR (cellOf r6 1)), DV.int (asI (cellOf r6 2)),
  DV.list false false 1 (asR (cellOf r6 3))]]
         else none)
       else none)
     else none)
    else none)
  else bindC (ih.call 55 [DV.agg [DV.int x5, DV.list false false 1 l6, DV.int x7, DV.list false false 1 l8]]) fun r8 =>
    (bif isRes [{ ag := true, css := [CS.int, CS.int] }, { ag := false, css := [CS.bool] }] r8 then
     some (DV.agg [DV.int (asI (cellOf ((tupL r8).getD 0 DV.undef) 0)), DV.int (asI (cellOf ((tupL r8).getD 0 DV.undef) 1))])
    else none)) := by kernel_rfl
theorem e3 (ih : VIh) (l0 : List DV) (l1 : List DV) : callF vt1 ih 3 [DV.agg [DV.list true false 1 l0, DV.list true false 1 l1]] =
  bindC (ih.call 6 []) fun r0 =>
   (bif isRes [{ ag := false, css := [CS.bool] }] r0 then
    (bif !asB r0 then
     some (DV.bool false)
    else bindC (ih.call 7 [DV.agg [DV.list true false 1 l0, DV.list true false 1 l1]]) fun r3 =>
      (bif isRes [{ ag := false, css := [CS.bool] }] r3 then
       (bif !asB r3 then
        some (DV.bool true)
       else bindC (ih.call 9 [DV.agg [DV.list true false 1 l0, DV.list true false 1 l1]]) fun r6 =>
         (bif isRes [{ ag := true, css := [CS.list 1, CS.list 1] }] r6 then
          bindC (ih.call 8 [DV.agg [DV.list true false 1 (asR (cellOf r6 0)), DV.list true false 1 (asR (cellOf r6 1))]]) fun r8 =>
           (bif isRes [{ ag := false, css := [CS.int] }, { ag := false, css := [CS.int] }] r8 then
            bindC (ih.call 9 [DV.agg [DV.list true false 1 l0, DV.list true false 1 l1]]) fun r10 =>
            (bif isRes [{ ag := true, css := [CS.list 1, CS.list 1] }] r10 then
            bindC (ih.call 10 [DV.agg [DV.list false false 1 (asR (cellOf r10 0)), DV.list false false 1 (asR (cellOf r10 1))]]) fun r12 =>
            (bif isRes [{ ag := false, css := [CS.list 1] }, { ag := false, css := [CS.int] }] r12 then
            bindC (ih.call 9 [DV.agg [DV.list true false 1 l0, DV.list true false 1 l1]]) fun r14 =>
            (bif isRes [{ ag := true, css := [CS.list 1, CS.list 1] }] r14 then
            bindC (ih.call 11 [DV.agg [DV.list false false 1 (asR (cellOf r14 0)), DV.list false false 1 (asR (cellOf r14 1))]]) fun r16 =>
            (bif isRes [{ ag := true, css := [CS.int, CS.int] }, { ag := false, css := [CS.int] }] r16 then
            bindC (ih.call 12 [DV.agg [DV.list true false 1 l0, DV.list true false 1 l1]]) fun r18 =>
            (bif isRes [{ ag := false, css := [CS.int] }, { ag := false, css := [CS.int] }] r18 then
            (bif !decide (asI ((tupL r8).getD 1 DV.undef) = asI ((tupL r18).getD 1 DV.undef)) then
            some (DV.bool false)
            else (bif !decide (asI ((tupL r8).getD 0 DV.undef) = asI ((tupL r18).getD 0 DV.undef)) then
            some (DV.bool false)
            else (bif !decide (asI ((tupL r18).getD 1 DV.undef) = 0) then
            (bif decide (asI ((tupL r12).getD 1 DV.undef) = asI ((tupL r18).getD 1 DV.undef)) then
            (bif decide ((↑(asR ((tupL r12).getD 0 DV.undef)).length : Int) = 0) then
            (bif decide (asI ((tupL r16).getD 1 DV.undef) = asI ((tupL r18).getD 1 DV.undef)) then
            some (DV.bool
  (decide (asI (cellOf ((tupL r16).getD 0 DV.undef) 0) = 0) && decide (asI (cellOf ((tupL r16).getD 0 DV.undef) 1) = 0)))
            else some (DV.bool false))
            else some (DV.bool false))
            else some (DV.bool false))
            else (bif decide (asI ((tupL r12).getD 1 DV.undef) = 0) then
            bindC (ih.call 14 [DV.agg [DV.list true false 1 l0, DV.list true false 1 l1]]) fun r27 =>
            (bif isRes [{ ag := false, css := [CS.list 1] }] r27 then
            bindC (ih.call 13 [DV.list true false 1 (asR ((tupL r12).getD 0 DV.undef)), DV.list true false 1 (asR r27)]) fun r29 =>
            (bif isRes [{ ag := false, css := [CS.bool] }] r29 then
            (bif asB r29 then
            (bif decide (asI ((tupL r16).getD 1 DV.undef) = 0) then
            bindC (ih.call 15 [DV.agg [DV.list true false 1 l0, DV.list true false 1 l1]]) fun r33 =>
            (bif isRes [{ ag := true, css := [CS.int, CS.int] }] r33 then
            some (DV.bool
  (decide (asI (cellOf ((tupL r16).getD 0 DV.undef) 0) = asI (cellOf r33 0)) &&
    decide (asI (cellOf ((tupL r16).getD 0 DV.undef) 1) = asI (cellOf r33 1))))
            else none)
            else some (DV.bool false))
            else some (DV.bool false))
            else none)
            else none)
            else some (DV.bool false)))))
            else none)
            else none)
            else none)
            else none)
            else none)
           else none)
         else none))
      else none))
   else none) := by kernel_rfl
end Go.Proofs
/- Equations of V for functions of the program: written by a program of this session (NF, NFg, gq). -/
namespace Go.Proofs
open Go Go.Sx Go.Vx
set_option maxRecDepth 100000
set_option maxHeartbeats 0
theorem e153 (ih : VIh) (l0 : List DV) : callF vt1 ih 153 [DV.list false false 1 l0] =
  ih.at_ 153 0 (tblL [(0, DV.list false false 1 l0), (3, DV.int (↑l0.length : Int))]) [] := by kernel_rfl
theorem e153_0 (ih : VIh) (l0 : List DV) (x1 : Int) : atF vt1 ih 153 0 (tblL [(0, DV.list false false 1 l0), (3, DV.int x1)]) [] =
  (bif decide (0 < x1) then
   (bif okR l0 (w64 (x1 - 1)) { ag := false, css := [CS.int] } then
    (bif decide (asI (l0.getD (w64 (x1 - 1)).toNat DV.undef) = 0) then
     ih.at_ 153 0 (tblL [(0, DV.list false false 1 l0), (3, DV.int (w64 (x1 - 1)))]) []
    else (bif decide (0 ≤ x1) && decide (x1 ≤ (↑l0.length : Int)) then
      some (DV.list false false 1 (List.take x1.toNat l0))
     else none))
   else none)
  else (bif decide (0 ≤ x1) && decide (x1 ≤ (↑l0.length : Int)) then
    some (DV.list false false 1 (List.take x1.toNat l0))
   else none)) := by kernel_rfl
theorem e129 (ih : VIh) (x0 : Int) (l1 : List DV) : callF vt1 ih 129 [DV.int x0, DV.list false false 1 l1] =
  bindC (ih.call 153 [DV.list false false 1 l1]) fun r0 =>
   (bif isRes [{ ag := false, css := [CS.list 1] }] r0 then
    (bif decide ((↑(asR r0).length : Int) = 0) then
     some (DV.agg [DV.int 0, DV.list false false 1 (asR r0)])
    else some (DV.agg [DV.int x0, DV.list false false 1 (asR r0)]))
   else none) := by kernel_rfl
theorem e128 (ih : VIh) (x0 : Int) : callF vt1 ih 128 [DV.int x0] =
  some (DV.int (max x0 (w64 (0 - x0)))) := by kernel_rfl
theorem e95 (ih : VIh) (x0 : Int) : callF vt1 ih 95 [DV.int x0] =
  (bif decide (x0 < 0) then
   ih.at_ 95 0 (tblL [(0, DV.int x0), (2, DV.ptr 0 0), (3, DV.int (-1)), (4, DV.own 1)]) [.box [DV.int 0, DV.nils], .row true 1 ([])]
  else ih.at_ 95 0 (tblL [(0, DV.int x0), (2, DV.ptr 0 0), (3, DV.int 1), (4, DV.own 1)]) [.box [DV.int 0, DV.nils], .row true 1 ([])]) := by kernel_rfl
theorem e95_0 (ih : VIh) (x0 : Int) (x1 : Int) (x2 : Int) (l3 : List DV) : atF vt1 ih 95 0 (tblL [(0, DV.int x0), (2, DV.ptr 0 0), (3, DV.int x1), (4, DV.own 1)]) [VB.box [DV.int x2, DV.nils], VB.row true 1 l3] =
  (bif !decide (x0 = 0) then
   bindC (ih.call 128 [DV.int (x0.tmod 1000000000)]) fun r1 =>
    (bif isRes [{ ag := false, css := [CS.int] }] r1 then
     (bif lenOk l3 [DV.int (asI r1)] then
      ih.at_ 95 0 (tblL [(0, DV.int (w64 (x0.tdiv 1000000000))), (2, DV.ptr 0 0), (3, DV.int x1), (4, DV.own 1)]) [.box [DV.int x2, DV.nils], .row true 1 (l3 ++ [DV.int (asI r1)])]
     else none)
    else none)
  else bindC (ih.call 129 [DV.int x1, DV.list false false 1 l3]) fun r4 =>
    (bif isRes [{ ag := true, css := [CS.int, CS.list 1] }] r4 then
     some (DV.agg [DV.int (asI (cellOf r4 0)), DV.list false false 1 (asR (cellOf r4 1))])
    else none)) := by kernel_rfl
theorem e135 (ih : VIh) (l0 : List DV) (l1 : List DV) : callF vt1 ih 135 [DV.list false false 1 l0, DV.list false false 1 l1] =
  (bif !decide ((↑l0.length : Int) = (↑l1.length : Int)) then
   (bif decide ((↑l0.length : Int) < (↑l1.length : Int)) then
    some (DV.int (-1))
   else some (DV.int 1))
  else ih.at_ 135 0 (tblL [(0, DV.list false false 1 l0), (1, DV.list false false 1 l1), (5, DV.int (w64 ((↑l0.length : Int) - 1)))]) []) := by kernel_rfl
theorem e135_0 (ih : VIh) (l0 : List DV) (l1 : List DV) (x2 : Int) : atF vt1 ih 135 0 (tblL [(0, DV.list false false 1 l0), (1, DV.list false false 1 l1), (5, DV.int x2)]) [] =
  (bif decide (0 ≤ x2) then
   (bif okR l0 x2 { ag := false, css := [CS.int] } then
    (bif okR l1 x2 { ag := false, css := [CS.int] } then
     (bif decide (asI (l0.getD x2.toNat DV.undef) < asI (l1.getD x2.toNat DV.undef)) then
      some (DV.int (-1))
     else (bif okR l0 x2 { ag := false, css := [CS.int] } then
       (bif okR l1 x2 { ag := false, css := [CS.int] } then
        (bif decide (asI (l1.getD x2.toNat DV.undef) < asI (l0.getD x2.toNat DV.undef)) then
         some (DV.int 1)
        else ih.at_ 135 0 (tblL [(0, DV.list false false 1 l0), (1, DV.list false false 1 l1), (5, DV.int (w64 (x2 - 1)))]) [])
       else none)
      else none))
    else none)
   else none)
  else some (DV.int 0)) := by kernel_rfl
theorem e156 (ih : VIh) (l0 : List DV) (x1 : Int) : callF vt1 ih 156 [DV.list false false 1 l0, DV.int x1] =
  (bif decide (x1 < (↑l0.length : Int)) then
   (bif okR l0 x1 { ag := false, css := [CS.int] } then
    some (DV.int (asI (l0.getD x1.toNat DV.undef)))
   else none)
  else some (DV.int 0)) := by kernel_rfl
theorem e134 (ih : VIh) (l0 : List DV) (l1 : List DV) : callF vt1 ih 134 [DV.list false false 1 l0, DV.list false false 1 l1] =
  ih.at_ 134 0 (tblL [(0, DV.list false false 1 l0), (1, DV.list false false 1 l1), (5, DV.own 0), (6, DV.int 0), (7, DV.int 0)]) [.row true 1 ([])] := by kernel_rfl
theorem e134_0 (ih : VIh) (l0 : List DV) (l1 : List DV) (x2 : Int) (x3 : Int) (l4 : List DV) : atF vt1 ih 134 0 (tblL [(0, DV.list false false 1 l0), (1, DV.list false false 1 l1), (5, DV.own 0), (6, DV.int x2), (7, DV.int x3)]) [VB.row true 1 l4] =
  (bif decide (x3 < (↑l0.length : Int)) then
   bindC (ih.call 156 [DV.list false false 1 l0, DV.int x3]) fun r1 =>
    (bif isRes [{ ag := false, css := [CS.int] }] r1 then
     bindC (ih.call 156 [DV.list false false 1 l1, DV.int x3]) fun r3 =>
      (bif isRes [{ ag := false, css := [CS.int] }] r3 then
       (bif lenOk l4 [DV.int ((w64 (w64 (asI r1 + asI r3) + x2)).tmod 1000000000)] then
        ih.at_ 134 0 (tblL [(0, DV.list false false 1 l0), (1, DV.list false false 1 l1), (5, DV.own 0), (6, DV.int (w64 ((w64 (w64 (asI r1 + asI r3) + x2)).tdiv 1000000000))), (7, DV.int (w64 (x3 + 1)))]) [.row true 1 (l4 ++ [DV.int ((w64 (w64 (asI r1 + asI r3) + x2)).tmod 1000000000)])]
       else none)
      else none)
    else none)
  else (bif decide (x3 < (↑l1.length : Int)) then
    bindC (ih.call 156 [DV.list false false 1 l0, DV.int x3]) fun r7 =>
     (bif isRes [{ ag := false, css := [CS.int] }] r7 then
      bindC (ih.call 156 [DV.list false false 1 l1, DV.int x3]) fun r9 =>
       (bif isRes [{ ag := false, css := [CS.int] }] r9 then
        (bif lenOk l4 [DV.int ((w64 (w64 (asI r7 + asI r9) + x2)).tmod 1000000000)] then
         ih.at_ 134 0 (tblL [(0, DV.list false false 1 l0), (1, DV.list false false 1 l1), (5, DV.own 0), (6, DV.int (w64 ((w64 (w64 (asI r7 + asI r9) + x2)).tdiv 1000000000))), (7, DV.int (w64 (x3 + 1)))]) [.row true 1 (l4 ++ [DV.int ((w64 (w64 (asI r7 + asI r9) + x2)).tmod 1000000000)])]
        else none)
       else none)
     else none)
   else (bif decide (0 < x2) then
     bindC (ih.call 156 [DV.list false false 1 l0, DV.int x3]) fun r13 =>
      (bif isRes [{ ag := false, css := [CS.int] }] r13 then
       bindC (ih.call 156 [DV.list false false 1 l1, DV.int x3]) fun r15 =>
        (bif isRes [{ ag := false, css := [CS.int] }] r15 then
         (bif lenOk l4 [DV.int ((w64 (w64 (asI r13 + asI r15) + x2)).tmod 1000000000)] then
          ih.at_ 134 0 (tblL [(0, DV.list false false 1 l0), (1, DV.list false false 1 l1), (5, DV.own 0), (6, DV.int (w64 ((w64 (w64 (asI r13 + asI r15) + x2)).tdiv 1000000000))), (7, DV.int (w64 (x3 + 1)))]) [.row true 1 (l4 ++ [DV.int ((w64 (w64 (asI r13 + asI r15) + x2)).tmod 1000000000)])]
         else none)
        else none)
      else none)
    else some (DV.list false false 1 l4)))) := by kernel_rfl
theorem e136 (ih : VIh) (l0 : List DV) (l1 : List DV) : callF vt1 ih 136 [DV.list false false 1 l0, DV.list false false 1 l1] =
  ih.at_ 136 0 (tblL [(0, DV.list false false 1 l0), (1, DV.list false false 1 l1), (5, DV.own 0), (6, DV.int 0), (7, DV.int 0)]) [.row true 1 ([])] := by kernel_rfl
theorem e136_0 (ih : VIh) (l0 : List DV) (l1 : List DV) (x2 : Int) (x3 : Int) (l4 : List DV) : atF vt1 ih 136 0 (tblL [(0, DV.list false false 1 l0), (1, DV.list false false 1 l1), (5, DV.own 0), (6, DV.int x2), (7, DV.int x3)]) [VB.row true 1 l4] =
  (bif decide (x3 < (↑l0.length : Int)) then
   (bif okR l0 x3 { ag := false, css := [CS.int] } then
    bindC (ih.call 156 [DV.list false false 1 l1, DV.int x3]) fun r2 =>
     (bif isRes [{ ag := false, css := [CS.int] }] r2 then
      (bif decide (w64 (w64 (asI (l0.getD x3.toNat DV.undef) - asI r2) - x2) < 0) then
       (bif lenOk l4 [DV.int (w64 (w64 (w64 (asI (l0.getD x3.toNat DV.undef) - asI r2) - x2) + 1000000000))] then
        ih.at_ 136 0 (tblL [(0, DV.list false false 1 l0), (1, DV.list false false 1 l1), (5, DV.own 0), (6, DV.int 1), (7, DV.int (w64 (x3 + 1)))]) [.row true 1 (l4 ++ [DV.int (w64 (w64 (w64 (asI (l0.getD x3.toNat DV.undef) - asI r2) - x2) + 1000000000))])]
       else none)
      else (bif lenOk l4 [DV.int (w64 (w64 (asI (l0.getD x3.toNat DV.undef) - asI r2) - x2))] then
        ih.at_ 136 0 (tblL [(0, DV.list false false 1 l0), (1, DV.list false false 1 l1), (5, DV.own 0), (6, DV.int 0), (7, DV.int (w64 (x3 + 1)))]) [.row true 1 (l4 ++ [DV.int (w64 (w64 (asI (l0.getD x3.toNat DV.undef) - asI r2) - x2))])]
       else none))
     else none)
   else none)
  else bindC (ih.call 153 [DV.list false false 1 l4]) fun r7 =>
    (bif isRes [{ ag := false, css := [CS.list 1] }] r7 then
     some (DV.list false false 1 (asR r7))
    else none)) := by kernel_rfl
theorem e130 (ih : VIh) (x0 : Int) (l1 : List DV) : callF vt1 ih 130 [DV.agg [DV.int x0, DV.list false false 1 l1]] =
  some (DV.agg [DV.int (w64 (0 - x0)), DV.list false false 1 l1]) := by kernel_rfl
theorem e155 (ih : VIh) (x0 : Int) (l1 : List DV) (x2 : Int) (l3 : List DV) : callF vt1 ih 155 [DV.agg [DV.int x0, DV.list false false 1 l1], DV.agg [DV.int x2, DV.list false false 1 l3]] =
  bindC (ih.call 130 [DV.agg [DV.int x2, DV.list false false 1 l3]]) fun r0 =>
   (bif isRes [{ ag := true, css := [CS.int, CS.list 1] }] r0 then
    bindC (ih.call 97 [DV.agg [DV.int x0, DV.list false false 1 l1],
  DV.agg [DV.int (asI (cellOf r0 0)), DV.list false false 1 (asR (cellOf r0 1))]]) fun r2 =>
     (bif isRes [{ ag := true, css := [CS.int, CS.list 1] }] r2 then
      some (DV.agg [DV.int (asI (cellOf r2 0)), DV.list false false 1 (asR (cellOf r2 1))])
     else none)
   else none) := by kernel_rfl
theorem e132 (ih : VIh) (x0 : Int) (l1 : List DV) (x2 : Int) (l3 : List DV) : callF vt1 ih 132 [DV.agg [DV.int x0, DV.list false false 1 l1], DV.agg [DV.int x2, DV.list false false 1 l3]] =
  bindC (ih.call 155 [DV.agg [DV.int x0, DV.list false false 1 l1], DV.agg [DV.int x2, DV.list false false 1 l3]]) fun r0 =>
   (bif isRes [{ ag := true, css := [CS.int, CS.list 1] }] r0 then
    some (DV.int (asI (cellOf r0 0)))
   else none) := by kernel_rfl
theorem e106 (ih : VIh) (x0 : Int) (l1 : List DV) : callF vt1 ih 106 [DV.agg [DV.int x0, DV.list false false 1 l1]] =
  some (DV.int x0) := by kernel_rfl
theorem e97 (ih : VIh) (x0 : Int) (l1 : List DV) (x2 : Int) (l3 : List DV) : callF vt1 ih 97 [DV.agg [DV.int x0, DV.list false false 1 l1], DV.agg [DV.int x2, DV.list false false 1 l3]] =
  (bif decide (x0 = 0) then
   some (DV.agg [DV.int x2, DV.list false false 1 l3])
  else (bif decide (x2 = 0) then
    some (DV.agg [DV.int x0, DV.list false false 1 l1])
   else (bif decide (x0 = x2) then
     bindC (ih.call 134 [DV.list false false 1 l1, DV.list false false 1 l3]) fun r3 =>
      (bif isRes [{ ag := false, css := [CS.list 1] }] r3 then
       bindC (ih.call 129 [DV.int x0, DV.list false false 1 (asR r3)]) fun r5 =>
        (bif isRes [{ ag := true, css := [CS.int, CS.list 1] }] r5 then
         some (DV.agg [DV.int (asI (cellOf r5 0)), DV.list false false 1 (asR (cellOf r5 1))])
        else none)
      else none)
    else bindC (ih.call 135 [DV.list false false 1 l1, DV.list false false 1 l3]) fun r7 =>
      (bif isRes [{ ag := false, css := [CS.int] }] r7 then
       (bif decide (asI r7 = 0) then
        some (DV.agg [DV.int 0, DV.list false false 1 []])
       else (bif decide (0 < asI r7) then
         bindC (ih.call 136 [DV.list false false 1 l1, DV.list false false 1 l3]) fun r11 =>
          (bif isRes [{ ag := false, css := [CS.list 1] }] r11 then
           bindC (ih.call 129 [DV.int x0, DV.list false false 1 (asR r11)]) fun r13 =>
            (bif isRes [{ ag := true, css := [CS.int, CS.list 1] }] r13 then
            some (DV.agg [DV.int (asI (cellOf r13 0)), DV.list false false 1 (asR (cellOf r13 1))])
            else none)
          else none)
        else bindC (ih.call 136 [DV.list false false 1 l3, DV.list false false 1 l1]) fun r15 =>
          (bif isRes [{ ag := false, css := [CS.list 1] }] r15 then
           bindC (ih.call 129 [DV.int x2, DV.list false false 1 (asR r15)]) fun r17 =>
            (bif isRes [{ ag := true, css := [CS.int, CS.list 1] }] r17 then
            some (DV.agg [DV.int (asI (cellOf r17 0)), DV.list false false 1 (asR (cellOf r17 1))])
            else none)
          else none)))
      else none)))) := by kernel_rfl
theorem e98 (ih : VIh) (x0 : Int) (l1 : List DV) (x2 : Int) (l3 : List DV) : callF vt1 ih 98 [DV.agg [DV.int x0, DV.list false false 1 l1], DV.agg [DV.int x2, DV.list false false 1 l3]] =
  (bif decide (0 ≤ w64 (w64 ((↑l1.length : Int) + (↑l3.length : Int)) + 1)) &&
    decide
      (w64 (w64 ((↑l1.length : Int) + (↑l3.length : Int)) + 1) =
        w64 (w64 ((↑l1.length : Int) + (↑l3.length : Int)) + 1)) &&
  decide (w64 (w64 ((↑l1.length : Int) + (↑l3.length : Int)) + 1) ≤ 1048576) then
   ih.at_ 98 0 (tblL [(2, DV.ptr 0 0), (3, DV.ptr 1 0), (4, DV.ptr 2 0), (5, DV.own 3), (6, DV.int 0)]) [.box [DV.int x0, DV.list false false 1 l1], .box [DV.int x2, DV.list false false 1 l3], .box [DV.int 0, DV.nils], .row false 1 (List.replicate (w64 (w64 ((↑l1.length : Int) + (↑l3.length : Int)) + 1)).toNat (DV.int 0))]
  else none) := by kernel_rfl
theorem e98_0 (ih : VIh) (x0 : Int) (x1 : Int) (l2 : List DV) (x3 : Int) (l4 : List DV) (x5 : Int) (l6 : List DV) : atF vt1 ih 98 0 (tblL [(2, DV.ptr 0 0), (3, DV.ptr 1 0), (4, DV.ptr 2 0), (5, DV.own 3), (6, DV.int x0)]) [VB.box [DV.int x1, DV.list false false 1 l2], VB.box [DV.int x3, DV.list false false 1 l4], VB.box [DV.int x5, DV.nils], VB.row false 1 l6] =
  (bif decide (x0 < (↑l2.length : Int)) then
   ih.at_ 98 1 (tblL [(2, DV.ptr 0 0), (3, DV.ptr 1 0), (4, DV.ptr 2 0), (5, DV.own 3), (6, DV.int x0), (7, DV.int 0), (8, DV.int 0)]) [.box [DV.int x1, DV.list false false 1 l2], .box [DV.int x3, DV.list false false 1 l4], .box [DV.int x5, DV.nils], .row false 1 (l6)]
  else bindC (ih.call 129 [DV.int (w64 (x1 * x3)), DV.list false false 1 l6]) fun r1 =>
    (bif isRes [{ ag := true, css := [CS.int, CS.list 1] }] r1 then
     some (DV.agg [DV.int (asI (cellOf r1 0)), DV.list false false 1 (asR (cellOf r1 1))])
    else none)) := by kernel_rfl
theorem e98_1 (ih : VIh) (x0 : Int) (x1 : Int) (x2 : Int) (x3 : Int) (l4 : List DV) (x5 : Int) (l6 : List DV) (x7 : Int) (l8 : List DV) : atF vt1 ih 98 1 (tblL [(2, DV.ptr 0 0), (3, DV.ptr 1 0), (4, DV.ptr 2 0), (5, DV.own 3), (6, DV.int x0), (7, DV.int x1), (8, DV.int x2)]) [VB.box [DV.int x3, DV.list false false 1 l4], VB.box [DV.int x5, DV.list false false 1 l6], VB.box [DV.int x7, DV.nils], VB.row false 1 l8] =
  (bif decide (x2 < (↑l6.length : Int)) then
   (bif inR (w64 (x0 + x2)) l8 then
    (bif isRow { ag := false, css := [CS.int] } (l8.getD (w64 (x0 + x2)).toNat DV.undef) then
     (bif okR l4 x0 { ag := false, css := [CS.int] } then
      (bif okR l6 x2 { ag := false, css := [CS.int] } then
       (bif inR (w64 (x0 + x2)) l8 then
        ih.at_ 98 1 (tblL [(2, DV.ptr 0 0), (3, DV.ptr 1 0), (4, DV.ptr 2 0), (5, DV.own 3), (6, DV.int x0), (7, DV.int
  (w64
    ((w64
          (w64
            (asI (l8.getD (w64 (x0 + x2)).toNat DV.undef) +
            w64 (asI (l4.getD x0.toNat DV.undef) * asI (l6.getD x2.toNat DV.undef))) +
            x1)).tdiv
      1000000000))), (8, DV.int (w64 (x2 + 1)))]) [.box [DV.int x3, DV.list false false 1 l4], .box [DV.int x5, DV.list false false 1 l6], .box [DV.int x7, DV.nils], .row false 1 (l8.set (w64 (x0 + x2)).toNat
  (DV.int
    ((w64
          (w64
            (asI (l8.getD (w64 (x0 + x2)).toNat DV.undef) +
            w64 (asI (l4.getD x0.toNat DV.undef) * asI (l6.getD x2.toNat DV.undef))) +
            x1)).tmod
      1000000000)))]
       else none)
      else none)
     else none)
    else none)
   else none)
  else (bif inR (w64 (x0 + (↑l6.length : Int))) l8 then
    (bif isRow { ag := false, css := [CS.int] } (l8.getD (w64 (x0 + (↑l6.length : Int))).toNat DV.undef) then
     (bif inR (w64 (x0 + (↑l6.length : Int))) l8 then
      ih.at_ 98 0 (tblL [(2, DV.ptr 0 0), (3, DV.ptr 1 0), (4, DV.ptr 2 0), (5, DV.own 3), (6, DV.int (w64 (x0 + 1)))]) [.box [DV.int x3, DV.list false false 1 l4], .box [DV.int x5, DV.list false false 1 l6], .box [DV.int x7, DV.nils], .row false 1 (l8.set (w64 (x0 + (↑l6.length : Int))).toNat
  (DV.int (w64 (asI (l8.getD (w64 (x0 + (↑l6.length : Int))).toNat DV.undef) + x1))))]
     else none)
    else none)
   else none)) := by kernel_rfl
theorem e154 (ih : VIh) (x0 : Int) (l1 : List DV) : callF vt1 ih 154 [DV.agg [DV.int x0, DV.list false false 1 l1]] =
  (bif decide (x0 < 0) then
   bindC (ih.call 130 [DV.agg [DV.int x0, DV.list false false 1 l1]]) fun r1 =>
    (bif isRes [{ ag := true, css := [CS.int, CS.list 1] }] r1 then
     some (DV.agg [DV.int (asI (cellOf r1 0)), DV.list false false 1 (asR (cellOf r1 1))])
    else none)
  else some (DV.agg [DV.int x0, DV.list false false 1 l1])) := by kernel_rfl
theorem e131 (ih : VIh) (x0 : Int) (l1 : List DV) (x2 : Int) (l3 : List DV) : callF vt1 ih 131 [DV.agg [DV.int x0, DV.list false false 1 l1], DV.agg [DV.int x2, DV.list false false 1 l3]] =
  bindC (ih.call 154 [DV.agg [DV.int x0, DV.list false false 1 l1]]) fun r0 =>
   (bif isRes [{ ag := true, css := [CS.int, CS.list 1] }] r0 then
    bindC (ih.call 154 [DV.agg [DV.int x2, DV.list false false 1 l3]]) fun r2 =>
     (bif isRes [{ ag := true, css := [CS.int, CS.list 1] }] r2 then
      ih.at_ 131 0 (tblL [(2, DV.ptr 0 0), (3, DV.ptr 1 0), (4, DV.ptr 2 0)]) [.box [DV.int (asI (cellOf r0 0)), DV.list false false 1 (asR (cellOf r0 1))], .box [DV.int (asI (cellOf r2 0)), DV.list false false 1 (asR (cellOf r2 1))], .box [DV.int 0, DV.nils]]
     else none)
   else none) := by kernel_rfl
theorem e131_0 (ih : VIh) (x0 : Int) (l1 : List DV) (x2 : Int) (l3 : List DV) (x4 : Int) : atF vt1 ih 131 0 (tblL [(2, DV.ptr 0 0), (3, DV.ptr 1 0), (4, DV.ptr 2 0)]) [VB.box [DV.int x0, DV.list false false 1 l1], VB.box [DV.int x2, DV.list false false 1 l3], VB.box [DV.int x4, DV.nils]] =
  bindC (ih.call 106 [DV.agg [DV.int x2, DV.list false false 1 l3]]) fun r0 =>
   (bif isRes [{ ag := false, css := [CS.int] }] r0 then
    (bif !decide (asI r0 = 0) then
     bindC (ih.call 133 [DV.agg [DV.int x0, DV.list false false 1 l1], DV.agg [DV.int x2, DV.list false false 1 l3]]) fun r3 =>
      (bif isRes [{ ag := true, css := [CS.int, CS.list 1] }] r3 then
       bindC (ih.call 98 [DV.agg [DV.int (asI (cellOf r3 0)), DV.list false false 1 (asR (cellOf r3 1))],
  DV.agg [DV.int x2, DV.list false false 1 l3]]) fun r5 =>
        (bif isRes [{ ag := true, css := [CS.int, CS.list 1] }] r5 then
         bindC (ih.call 155 [DV.agg [DV.int x0, DV.list false false 1 l1],
  DV.agg [DV.int (asI (cellOf r5 0)), DV.list false false 1 (asR (cellOf r5 1))]]) fun r7 =>
          (bif isRes [{ ag := true, css := [CS.int, CS.list 1] }] r7 then
           ih.at_ 131 0 (tblL [(2, DV.ptr 0 0), (3, DV.ptr 1 0), (4, DV.ptr 2 0)]) [.box [DV.int x2, DV.list false false 1 l3], .box [DV.int (asI (cellOf r7 0)), DV.list false false 1 (asR (cellOf r7 1))], .box [DV.int x4, DV.nils]]
          else none)
        else none)
      else none)
    else some (DV.agg [DV.int x0, DV.list false false 1 l1]))
   else none) := by kernel_rfl
theorem e133 (ih : VIh) (x0 : Int) (l1 : List DV) (x2 : Int) (l3 : List DV) : callF vt1 ih 133 [DV.agg [DV.int x0, DV.list false false 1 l1], DV.agg [DV.int x2, DV.list false false 1 l3]] =
  (bif decide (x0 = 0) then
   some (DV.agg [DV.int 0, DV.list false false 1 []])
  else (bif true && decide ((↑l1.length : Int) = (↑l1.length : Int)) && decide ((↑l1.length : Int) ≤ 1048576) then
    ih.at_ 133 0 (tblL [(2, DV.ptr 0 0), (3, DV.ptr 1 0), (4, DV.ptr 2 0), (5, DV.own 3), (6, DV.list false false 1 []), (7, DV.int (w64 ((↑l1.length : Int) - 1)))]) [.box [DV.int x0, DV.list false false 1 l1], .box [DV.int x2, DV.list false false 1 l3], .box [DV.int 0, DV.nils], .row false 1 (List.replicate (↑l1.length : Int).toNat (DV.int 0))]
   else none)) := by kernel_rfl
theorem e133_0 (ih : VIh) (l0 : List DV) (x1 : Int) (x2 : Int) (l3 : List DV) (x4 : Int) (l5 : List DV) (x6 : Int) (l7 : List DV) : atF vt1 ih 133 0 (tblL [(2, DV.ptr 0 0), (3, DV.ptr 1 0), (4, DV.ptr 2 0), (5, DV.own 3), (6, DV.list false false 1 l0), (7, DV.int x1)]) [VB.box [DV.int x2, DV.list false false 1 l3], VB.box [DV.int x4, DV.list false false 1 l5], VB.box [DV.int x6, DV.nils], VB.row false 1 l7] =
  (bif decide (0 ≤ x1) then
   (bif okR l3 x1 { ag := false, css := [CS.int] } then
    (bif lenOk [DV.int (asI (l3.getD x1.toNat DV.undef))] l0 then
     bindC (ih.call 153 [DV.list false false 1 (DV.int (asI (l3.getD x1.toNat DV.undef)) :: l0)]) fun r3 =>
      (bif isRes [{ ag := false, css := [CS.list 1] }] r3 then
       ih.at_ 133 1 (tblL [(2, DV.ptr 0 0), (3, DV.ptr 1 0), (4, DV.ptr 2 0), (5, DV.own 3), (6, DV.list false false 1 (asR r3)), (7, DV.int x1), (8, DV.int 0), (9, DV.int 999999999)]) [.box [DV.int x2, DV.list false false 1 l3], .box [DV.int x4, DV.list false false 1 l5], .box [DV.int x6, DV.nils], .row false 1 (l7)]
      else none)
    else none)
   else none)
  else bindC (ih.call 129 [DV.int x2, DV.list false false 1 l7]) fun r5 =>
    (bif isRes [{ ag := true, css := [CS.int, CS.list 1] }] r5 then
     (bif decide (x2 < 0) then
      (bif decide (0 < (↑l0.length : Int)) then
       bindC (ih.call 95 [DV.int 1]) fun r9 =>
        (bif isRes [{ ag := true, css := [CS.int, CS.list 1] }] r9 then
         bindC (ih.call 155 [DV.agg [DV.int (asI (cellOf r5 0)), DV.list false false 1 (asR (cellOf r5 1))],
  DV.agg [DV.int (asI (cellOf r9 0)), DV.list false false 1 (asR (cellOf r9 1))]]) fun r11 =>
          (bif isRes [{ ag := true, css := [CS.int, CS.list 1] }] r11 then
           some (DV.agg [DV.int (asI (cellOf r11 0)), DV.list false false 1 (asR (cellOf r11 1))])
          else none)
        else none)
      else some (DV.agg [DV.int (asI (cellOf r5 0)), DV.list false false 1 (asR (cellOf r5 1))]))
     else some (DV.agg [DV.int (asI (cellOf r5 0)), DV.list false false 1 (asR (cellOf r5 1))]))
    else none)) := by kernel_rfl
theorem e133_1 (ih : VIh) (l0 : List DV) (x1 : Int) (x2 : Int) (x3 : Int) (x4 : Int) (l5 : List DV) (x6 : Int) (l7 : List DV) (x8 : Int) (l9 : List DV) : atF vt1 ih 133 1 (tblL [(2, DV.ptr 0 0), (3, DV.ptr 1 0), (4, DV.ptr 2 0), (5, DV.own 3), (6, DV.list false false 1 l0), (7, DV.int x1), (8, DV.int x2), (9, DV.int x3)]) [VB.box [DV.int x4, DV.list false false 1 l5], VB.box [DV.int x6, DV.list false false 1 l7], VB.box [DV.int x8, DV.nils], VB.row false 1 l9] =
  (bif decide (x2 < x3) then
   bindC (ih.call 129 [DV.int 1, DV.list false false 1 l7]) fun r1 =>
    (bif isRes [{ ag := true, css := [CS.int, CS.list 1] }] r1 then
     bindC (ih.call 95 [DV.int (w64 ((w64 (w64 (x2 + x3) + 1)).tdiv 2))]) fun r3 =>
      (bif isRes [{ ag := true, css := [CS.int, CS.list 1] }] r3 then
       bindC (ih.call 98 [DV.agg [DV.int (asI (cellOf r1 0)), DV.list false false 1 (asR (cellOf r1 1))],
  DV.agg [DV.int (asI (cellOf r3 0)), DV.list false false 1 (asR (cellOf r3 1))]]) fun r5 =>
        (bif isRes [{ ag := true, css := [CS.int, CS.list 1] }] r5 then
         bindC (ih.call 135 [DV.list false false 1 (asR (cellOf r5 1)), DV.list false false 1 l0]) fun r7 =>
          (bif isRes [{ ag := false, css := [CS.int] }] r7 then
           (bif decide (asI r7 ≤ 0) then
            ih.at_ 133 1 (tblL [(2, DV.ptr 0 0), (3, DV.ptr 1 0), (4, DV.ptr 2 0), (5, DV.own 3), (6, DV.list false false 1 l0), (7, DV.int x1), (8, DV.int (w64 ((w64 (w64 (x2 + x3) + 1)).tdiv 2))), (9, DV.int x3)]) [.box [DV.int x4, DV.list false false 1 l5], .box [DV.int x6, DV.list false false 1 l7], .box [DV.int x8, DV.nils], .row false 1 (l9)]
           else ih.at_ 133 1 (tblL [(2, DV.ptr 0 0), (3, DV.ptr 1 0), (4, DV.ptr 2 0), (5, DV.own 3), (6, DV.list false false 1 l0), (7, DV.int x1), (8, DV.int x2), (9, DV.int (w64 (w64 ((w64 (w64 (x2 + x3) + 1)).tdiv 2) - 1)))]) [.box [DV.int x4, DV.list false false 1 l5], .box [DV.int x6, DV.list false false 1 l7], .box [DV.int x8, DV.nils], .row false 1 (l9)])
          else none)
        else none)
      else none)
    else none)
  else (bif inR x1 l9 then
    bindC (ih.call 129 [DV.int 1, DV.list false false 1 l7]) fun r11 =>
     (bif isRes [{ ag := true, css := [CS.int, CS.list 1] }] r11 then
      bindC (ih.call 95 [DV.int x2]) fun r13 =>
       (bif isRes [{ ag := true, css := [CS.int, CS.list 1] }] r13 then
        bindC (ih.call 98 [DV.agg [DV.int (asI (cellOf r11 0)), DV.list false false 1 (asR (cellOf r11 1))],
  DV.agg [DV.int (asI (cellOf r13 0)), DV.list false false 1 (asR (cellOf r13 1))]]) fun r15 =>
         (bif isRes [{ ag := true, css := [CS.int, CS.list 1] }] r15 then
          bindC (ih.call 136 [DV.list false false 1 l0, DV.list false false 1 (asR (cellOf r15 1))]) fun r17 =>
           (bif isRes [{ ag := false, css := [CS.list 1] }] r17 then
            ih.at_ 133 0 (tblL [(2, DV.ptr 0 0), (3, DV.ptr 1 0), (4, DV.ptr 2 0), (5, DV.own 3), (6, DV.list false false 1 (asR r17)), (7, DV.int (w64 (x1 - 1)))]) [.box [DV.int x4, DV.list false false 1 l5], .box [DV.int x6, DV.list false false 1 l7], .box [DV.int x8, DV.nils], .row false 1 (l9.set x1.toNat (DV.int x2))]
           else none)
         else none)
       else none)
     else none)
   else none)) := by kernel_rfl
theorem e96 (ih : VIh) (x0 : Int) (l1 : List DV) (x2 : Int) (l3 : List DV) : callF vt1 ih 96 [DV.agg [DV.int x0, DV.list false false 1 l1], DV.agg [DV.int x2, DV.list false false 1 l3]] =
  bindC (ih.call 106 [DV.agg [DV.int x2, DV.list false false 1 l3]]) fun r0 =>
   (bif isRes [{ ag := false, css := [CS.int] }] r0 then
    (bif decide (asI r0 < 0) then
     bindC (ih.call 130 [DV.agg [DV.int x0, DV.list false false 1 l1]]) fun r3 =>
      (bif isRes [{ ag := true, css := [CS.int, CS.list 1] }] r3 then
       bindC (ih.call 130 [DV.agg [DV.int x2, DV.list false false 1 l3]]) fun r5 =>
        (bif isRes [{ ag := true, css := [CS.int, CS.list 1] }] r5 then
         bindC (ih.call 131 [DV.agg [DV.int (asI (cellOf r3 0)), DV.list false false 1 (asR (cellOf r3 1))],
  DV.agg [DV.int (asI (cellOf r5 0)), DV.list false false 1 (asR (cellOf r5 1))]]) fun r7 =>
          (bif isRes [{ ag := true, css := [CS.int, CS.list 1] }] r7 then
           bindC (ih.call 95 [DV.int 1]) fun r9 =>
            (bif isRes [{ ag := true, css := [CS.int, CS.list 1] }] r9 then
            bindC (ih.call 132 [DV.agg [DV.int (asI (cellOf r7 0)), DV.list false false 1 (asR (cellOf r7 1))],
  DV.agg [DV.int (asI (cellOf r9 0)), DV.list false false 1 (asR (cellOf r9 1))]]) fun r11 =>
            (bif isRes [{ ag := false, css := [CS.int] }] r11 then
            (bif decide (asI r11 = 0) then
            some (DV.agg
  [DV.int (asI (cellOf r3 0)), DV.list false false 1 (asR (cellOf r3 1)), DV.int (asI (cellOf r5 0)),
    DV.list false false 1 (asR (cellOf r5 1))])
            else bindC (ih.call 133 [DV.agg [DV.int (asI (cellOf r3 0)), DV.list false false 1 (asR (cellOf r3 1))],
  DV.agg [DV.int (asI (cellOf r7 0)), DV.list false false 1 (asR (cellOf r7 1))]]) fun r14 =>
            (bif isRes [{ ag := true, css := [CS.int, CS.list 1] }] r14 then
            bindC (ih.call 133 [DV.agg [DV.int (asI (cellOf r5 0)), DV.list false false 1 (asR (cellOf r5 1))],
  DV.agg [DV.int (asI (cellOf r7 0)), DV.list false false 1 (asR (cellOf r7 1))]]) fun r16 =>
            (bif isRes [{ ag := true, css := [CS.int, CS.list 1] }] r16 then
            some (DV.agg
  [DV.int (asI (cellOf r14 0)), DV.list false false 1 (asR (cellOf r14 1)), DV.int (asI (cellOf r16 0)),
    DV.list false false 1 (asR (cellOf r16 1))])
            else none)
            else none))
            else none)
            else none)
          else none)
        else none)
      else none)
    else bindC (ih.call 131 [DV.agg [DV.int x0, DV.list false false 1 l1], DV.agg [DV.int x2, DV.list false false 1 l3]]) fun r18 =>
      (bif isRes [{ ag := true, css := [CS.int, CS.list 1] }] r18 then
       bindC (ih.call 95 [DV.int 1]) fun r20 =>
        (bif isRes [{ ag := true, css := [CS.int, CS.list 1] }] r20 then
         bindC (ih.call 132 [DV.agg [DV.int (asI (cellOf r18 0)), DV.list false false 1 (asR (cellOf r18 1))],
  DV.agg [DV.int (asI (cellOf r20 0)), DV.list false false 1 (asR (cellOf r20 1))]]) fun r22 =>
          (bif isRes [{ ag := false, css := [CS.int] }] r22 then
           (bif decide (asI r22 = 0) then
            some (DV.agg [DV.int x0, DV.list false false 1 l1, DV.int x2, DV.list false false 1 l3])
           else bindC (ih.call 133 [DV.agg [DV.int x0, DV.list false false 1 l1],
  DV.agg [DV.int (asI (cellOf r18 0)), DV.list false false 1 (asR (cellOf r18 1))]]) fun r25 =>
            (bif isRes [{ ag := true, css := [CS.int, CS.list 1] }] r25 then
            bindC (ih.call 133 [DV.agg [DV.int x2, DV.list false false 1 l3],
  DV.agg [DV.int (asI (cellOf r18 0)), DV.list false false 1 (asR (cellOf r18 1))]]) fun r27 =>
            (bif isRes [{ ag := true, css := [CS.int, CS.list 1] }] r27 then
            some (DV.agg
  [DV.int (asI (cellOf r25 0)), DV.list false false 1 (asR (cellOf r25 1)), DV.int (asI (cellOf r27 0)),
    DV.list false false 1 (asR (cellOf r27 1))])
            else none)
            else none))
          else none)
        else none)
      else none))
   else none) := by kernel_rfl
theorem e54 (ih : VIh) (x0 : Int) (x1 : Int) : callF vt1 ih 54 [DV.int x0, DV.int x1] =
  bindC (ih.call 95 [DV.int x0]) fun r0 =>
   (bif isRes [{ ag := true, css := [CS.int, CS.list 1] }] r0 then
    bindC (ih.call 95 [DV.int x1]) fun r2 =>
     (bif isRes [{ ag := true, css := [CS.int, CS.list 1] }] r2 then
      bindC (ih.call 96 [DV.agg [DV.int (asI (cellOf r0 0)), DV.list false false 1 (asR (cellOf r0 1))],
  DV.agg [DV.int (asI (cellOf r2 0)), DV.list false false 1 (asR (cellOf r2 1))]]) fun r4 =>
       (bif isRes [{ ag := true, css := [CS.int, CS.list 1, CS.int, CS.list 1] }] r4 then
        some (DV.agg
  [DV.int (asI (cellOf r4 0)), DV.list false false 1 (asR (cellOf r4 1)), DV.int (asI (cellOf r4 2)),
    DV.list false false 1 (asR (cellOf r4 3))])
       else none)
     else none)
   else none) := by kernel_rfl
theorem e52 (ih : VIh) (x0 : Int) : callF vt1 ih 52 [DV.int x0] =
  bindC (ih.call 95 [DV.int x0]) fun r0 =>
   (bif isRes [{ ag := true, css := [CS.int, CS.list 1] }] r0 then
    bindC (ih.call 95 [DV.int 1]) fun r2 =>
     (bif isRes [{ ag := true, css := [CS.int, CS.list 1] }] r2 then
      some (DV.agg
  [DV.int (asI (cellOf r0 0)), DV.list false false 1 (asR (cellOf r0 1)), DV.int (asI (cellOf r2 0)),
    DV.list false false 1 (asR (cellOf r2 1))])
     else none)
   else none) := by kernel_rfl
theorem e53 (ih : VIh) (x0 : Int) (l1 : List DV) (x2 : Int) (l3 : List DV) (x4 : Int) (l5 : List DV) (x6 : Int) (l7 : List DV) : callF vt1 ih 53 [DV.agg [DV.int x0, DV.list false false 1 l1, DV.int x2, DV.list false false 1 l3],
  DV.agg [DV.int x4, DV.list false false 1 l5, DV.int x6, DV.list false false 1 l7]] =
  bindC (ih.call 98 [DV.agg [DV.int x0, DV.list false false 1 l1], DV.agg [DV.int x6, DV.list false false 1 l7]]) fun r0 =>
   (bif isRes [{ ag := true, css := [CS.int, CS.list 1] }] r0 then
    bindC (ih.call 98 [DV.agg [DV.int x4, DV.list false false 1 l5], DV.agg [DV.int x2, DV.list false false 1 l3]]) fun r2 =>
     (bif isRes [{ ag := true, css := [CS.int, CS.list 1] }] r2 then
      bindC (ih.call 97 [DV.agg [DV.int (asI (cellOf r0 0)), DV.list false false 1 (asR (cellOf r0 1))],
  DV.agg [DV.int (asI (cellOf r2 0)), DV.list false false 1 (asR (cellOf r2 1))]]) fun r4 =>
       (bif isRes [{ ag := true, css := [CS.int, CS.list 1] }] r4 then
        bindC (ih.call 98 [DV.agg [DV.int x2, DV.list false false 1 l3], DV.agg [DV.int x6, DV.list false false 1 l7]]) fun r6 =>
         (bif isRes [{ ag := true, css := [CS.int, CS.list 1] }] r6 then
          bindC (ih.call 96 [DV.agg [DV.int (asI (cellOf r4 0)), DV.list false false 1 (asR (cellOf r4 1))],
  DV.agg [DV.int (asI (cellOf r6 0)), DV.list false false 1 (asR (cellOf r6 1))]]) fun r8 =>
           (bif isRes [{ ag := true, css := [CS.int, CS.list 1, CS.int, CS.list 1] }] r8 then
            some (DV.agg
  [DV.int (asI (cellOf r8 0)), DV.list false false 1 (asR (cellOf r8 1)), DV.int (asI (cellOf r8 2)),
    DV.list false false 1 (asR (cellOf r8 3))])
           else none)
         else none)
       else none)
     else none)
   else none) := by kernel_rfl
theorem e65 (ih : VIh) (x0 : Int) (l1 : List DV) (x2 : Int) (l3 : List DV) (x4 : Int) (l5 : List DV) (x6 : Int) (l7 : List DV) : callF vt1 ih 65 [DV.agg [DV.int x0, DV.list false false 1 l1, DV.int x2, DV.list false false 1 l3],
  DV.agg [DV.int x4, DV.list false false 1 l5, DV.int x6, DV.list false false 1 l7]] =
  bindC (ih.call 105 [DV.agg [DV.int x4, DV.list false false 1 l5, DV.int x6, DV.list false false 1 l7]]) fun r0 =>
   (bif isRes [{ ag := true, css := [CS.int, CS.list 1, CS.int, CS.list 1] }] r0 then
    bindC (ih.call 53 [DV.agg [DV.int x0, DV.list false false 1 l1, DV.int x2, DV.list false false 1 l3],
  DV.agg
    [DV.int (asI (cellOf r0 0)), DV.list false false 1 (asR (cellOf r0 1)), DV.int (asI (cellOf r0 2)),
      DV.list false false 1 (asR (cellOf r0 3))]]) fun r2 =>
     (bif isRes [{ ag := true, css := [CS.int, CS.list 1, CS.int, CS.list 1] }] r2 then
      some (DV.agg
  [DV.int (asI (cellOf r2 0)), DV.list false false 1 (asR (cellOf r2 1)), DV.int (asI (cellOf r2 2)),
    DV.list false false 1 (asR (cellOf r2 3))])
     else none)
   else none) := by kernel_rfl
theorem e67 (ih : VIh) (x0 : Int) (l1 : List DV) (x2 : Int) (l3 : List DV) (x4 : Int) (l5 : List DV) (x6 : Int) (l7 : List DV) : callF vt1 ih 67 [DV.agg [DV.int x0, DV.list false false 1 l1, DV.int x2, DV.list false false 1 l3],
  DV.agg [DV.int x4, DV.list false false 1 l5, DV.int x6, DV.list false false 1 l7]] =
  bindC (ih.call 98 [DV.agg [DV.int x0, DV.list false false 1 l1], DV.agg [DV.int x4, DV.list false false 1 l5]]) fun r0 =>
   (bif isRes [{ ag := true, css := [CS.int, CS.list 1] }] r0 then
    bindC (ih.call 98 [DV.agg [DV.int x2, DV.list false false 1 l3], DV.agg [DV.int x6, DV.list false false 1 l7]]) fun r2 =>
     (bif isRes [{ ag := true, css := [CS.int, CS.list 1] }] r2 then
      bindC (ih.call 96 [DV.agg [DV.int (asI (cellOf r0 0)), DV.list false false 1 (asR (cellOf r0 1))],
  DV.agg [DV.int (asI (cellOf r2 0)), DV.list false false 1 (asR (cellOf r2 1))]]) fun r4 =>
       (bif isRes [{ ag := true, css := [CS.int, CS.list 1, CS.int, CS.list 1] }] r4 then
        some (DV.agg
  [DV.int (asI (cellOf r4 0)), DV.list false false 1 (asR (cellOf r4 1)), DV.int (asI (cellOf r4 2)),
    DV.list false false 1 (asR (cellOf r4 3))])
       else none)
     else none)
   else none) := by kernel_rfl
theorem e68 (ih : VIh) (x0 : Int) (l1 : List DV) (x2 : Int) (l3 : List DV) (x4 : Int) (l5 : List DV) (x6 : Int) (l7 : List DV) : callF vt1 ih 68 [DV.agg [DV.int x0, DV.list false false 1 l1, DV.int x2, DV.list false false 1 l3],
  DV.agg [DV.int x4, DV.list false false 1 l5, DV.int x6, DV.list false false 1 l7]] =
  bindC (ih.call 98 [DV.agg [DV.int x0, DV.list false false 1 l1], DV.agg [DV.int x6, DV.list false false 1 l7]]) fun r0 =>
   (bif isRes [{ ag := true, css := [CS.int, CS.list 1] }] r0 then
    bindC (ih.call 98 [DV.agg [DV.int x2, DV.list false false 1 l3], DV.agg [DV.int x4, DV.list false false 1 l5]]) fun r2 =>
     (bif isRes [{ ag := true, css := [CS.int, CS.list 1] }] r2 then
      bindC (ih.call 96 [DV.agg [DV.int (asI (cellOf r0 0)), DV.list false false 1 (asR (cellOf r0 1))],
  DV.agg [DV.int (asI (cellOf r2 0)), DV.list false false 1 (asR (cellOf r2 1))]]) fun r4 =>
       (bif isRes [{ ag := true, css := [CS.int, CS.list 1, CS.int, CS.list 1] }] r4 then
        some (DV.agg
  [DV.int (asI (cellOf r4 0)), DV.list false false 1 (asR (cellOf r4 1)), DV.int (asI (cellOf r4 2)),
    DV.list false false 1 (asR (cellOf r4 3))])
       else none)
     else none)
   else none) := by kernel_rfl
theorem e105 (ih : VIh) (x0 : Int) (l1 : List DV) (x2 : Int) (l3 : List DV) : callF vt1 ih 105 [DV.agg [DV.int x0, DV.list false false 1 l1, DV.int x2, DV.list false false 1 l3]] =
  bindC (ih.call 130 [DV.agg [DV.int x0, DV.list false false 1 l1]]) fun r0 =>
   (bif isRes [{ ag := true, css := [CS.int, CS.list 1] }] r0 then
    some (DV.agg [DV.int (asI (cellOf r0 0)), DV.list false false 1 (asR (cellOf r0 1)), DV.int x2, DV.list false false 1 l3])
   else none) := by kernel_rfl
theorem e69 (ih : VIh) (x0 : Int) (l1 : List DV) (x2 : Int) (l3 : List DV) : callF vt1 ih 69 [DV.agg [DV.int x0, DV.list false false 1 l1, DV.int x2, DV.list false false 1 l3]] =
  bindC (ih.call 106 [DV.agg [DV.int x0, DV.list false false 1 l1]]) fun r0 =>
   (bif isRes [{ ag := false, css := [CS.int] }] r0 then
    some (DV.int (asI r0))
   else none) := by kernel_rfl
theorem e103 (ih : VIh) (x0 : Int) (l1 : List DV) (x2 : Int) (l3 : List DV) : callF vt1 ih 103 [DV.agg [DV.int x0, DV.list false false 1 l1, DV.int x2, DV.list false false 1 l3]] =
  bindC (ih.call 133 [DV.agg [DV.int x0, DV.list false false 1 l1], DV.agg [DV.int x2, DV.list false false 1 l3]]) fun r0 =>
   (bif isRes [{ ag := true, css := [CS.int, CS.list 1] }] r0 then
    some (DV.agg [DV.int (asI (cellOf r0 0)), DV.list false false 1 (asR (cellOf r0 1))])
   else none) := by kernel_rfl
theorem e99 (ih : VIh) (x0 : Int) (l1 : List DV) : callF vt1 ih 99 [DV.agg [DV.int x0, DV.list false false 1 l1]] =
  (bif decide (3 < (↑l1.length : Int)) then
   some (DV.tup [DV.int 0, DV.bool false])
  else (bif decide ((↑l1.length : Int) = 3) then
    (bif okR l1 2 { ag := false, css := [CS.int] } then
     (bif decide (8 < asI (l1.getD 2 DV.undef)) then
      some (DV.tup [DV.int 0, DV.bool false])
     else ih.at_ 99 0 (tblL [(1, DV.ptr 0 0), (4, DV.int 0), (5, DV.int (w64 ((↑l1.length : Int) - 1)))]) [.box [DV.int x0, DV.list false false 1 l1]])
    else none)
   else ih.at_ 99 0 (tblL [(1, DV.ptr 0 0), (4, DV.int 0), (5, DV.int (w64 ((↑l1.length : Int) - 1)))]) [.box [DV.int x0, DV.list false false 1 l1]])) := by kernel_rfl
theorem e99_0 (ih : VIh) (x0 : Int) (x1 : Int) (x2 : Int) (l3 : List DV) : atF vt1 ih 99 0 (tblL [(1, DV.ptr 0 0), (4, DV.int x0), (5, DV.int x1)]) [VB.box [DV.int x2, DV.list false false 1 l3]] =
  (bif decide (0 ≤ x1) then
   (bif okR l3 x1 { ag := false, css := [CS.int] } then
    ih.at_ 99 0 (tblL [(1, DV.ptr 0 0), (4, DV.int (w64 (w64 (x0 * 1000000000) + asI (l3.getD x1.toNat DV.undef)))), (5, DV.int (w64 (x1 - 1)))]) [.box [DV.int x2, DV.list false false 1 l3]]
   else none)
  else some (DV.tup [DV.int (w64 (x2 * x0)), DV.bool true])) := by kernel_rfl
theorem e100 (ih : VIh) (x0 : Int) (x1 : Int) : callF vt1 ih 100 [DV.agg [DV.int x0, DV.int x1]] =
  bindC (ih.call 50 [DV.int x0, DV.int (-1000000000), DV.int 1000000000]) fun r0 =>
   (bif isRes [{ ag := false, css := [CS.bool] }] r0 then
    (bif asB r0 then
     bindC (ih.call 50 [DV.int x1, DV.int 1, DV.int 1000000000]) fun r3 =>
      (bif isRes [{ ag := false, css := [CS.bool] }] r3 then
       some (DV.bool (asB r3))
      else none)
    else some (DV.bool false))
   else none) := by kernel_rfl
theorem e55 (ih : VIh) (x0 : Int) (l1 : List DV) (x2 : Int) (l3 : List DV) : callF vt1 ih 55 [DV.agg [DV.int x0, DV.list false false 1 l1, DV.int x2, DV.list false false 1 l3]] =
  bindC (ih.call 99 [DV.agg [DV.int x0, DV.list false false 1 l1]]) fun r0 =>
   (bif isRes [{ ag := false, css := [CS.int] }, { ag := false, css := [CS.bool] }] r0 then
    bindC (ih.call 99 [DV.agg [DV.int x2, DV.list false false 1 l3]]) fun r2 =>
     (bif isRes [{ ag := false, css := [CS.int] }, { ag := false, css := [CS.bool] }] r2 then
      (bif !asB ((tupL r0).getD 1 DV.undef) then
       some (DV.tup [DV.agg [DV.int 0, DV.int 0], DV.bool false])
      else (bif !asB ((tupL r2).getD 1 DV.undef) then
        some (DV.tup [DV.agg [DV.int 0, DV.int 0], DV.bool false])
       else bindC (ih.call 100 [DV.agg [DV.int (asI ((tupL r0).getD 0 DV.undef)), DV.int (asI ((tupL r2).getD 0 DV.undef))]]) fun r6 =>
         (bif isRes [{ ag := false, css := [CS.bool] }] r6 then
          (bif !asB r6 then
           some (DV.tup [DV.agg [DV.int 0, DV.int 0], DV.bool false])
          else some (DV.tup [DV.agg [DV.int (asI ((tupL r0).getD 0 DV.undef)), DV.int (asI ((tupL r2).getD 0 DV.undef))], DV.bool true]))
         else none)))
     else none)
   else none) := by kernel_rfl
theorem e50 (ih : VIh) (x0 : Int) (x1 : Int) (x2 : Int) : callF vt1 ih 50 [DV.int x0, DV.int x1, DV.int x2] =
  (bif decide (x1 ≤ x0) then
   some (DV.bool (decide (x0 ≤ x2)))
  else some (DV.bool false)) := by kernel_rfl
theorem e104 (ih : VIh) (x0 : Int) (x1 : Int) : callF vt1 ih 104 [DV.int x0, DV.int x1] =
  ih.at_ 104 0 (tblL [(0, DV.int x0), (1, DV.int x1)]) [] := by kernel_rfl
theorem e104_0 (ih : VIh) (x0 : Int) (x1 : Int) : atF vt1 ih 104 0 (tblL [(0, DV.int x0), (1, DV.int x1)]) [] =
  (bif !decide (x1 = 0) then
   (bif decide (x1 = 0) then
    none
   else ih.at_ 104 0 (tblL [(0, DV.int x1), (1, DV.int (x0.tmod x1))]) [])
  else bindC (ih.call 128 [DV.int x0]) fun r2 =>
    (bif isRes [{ ag := false, css := [CS.int] }] r2 then
     some (DV.int (asI r2))
    else none)) := by kernel_rfl
theorem e64 (ih : VIh) (x0 : Int) (x1 : Int) : callF vt1 ih 64 [DV.agg [DV.int x0, DV.int x1]] =
  (bif decide (0 < x1) then
   bindC (ih.call 104 [DV.int x0, DV.int x1]) fun r1 =>
    (bif isRes [{ ag := false, css := [CS.int] }] r1 then
     some (DV.bool (decide (asI r1 = 1)))
    else none)
  else some (DV.bool false)) := by kernel_rfl
theorem e28 (ih : VIh) (x0 : Int) (x1 : Int) : callF vt1 ih 28 [DV.agg [DV.int x0, DV.int x1]] =
  bindC (ih.call 54 [DV.int x0, DV.int x1]) fun r0 =>
   (bif isRes [{ ag := true, css := [CS.int, CS.list 1, CS.int, CS.list 1] }] r0 then
    some (DV.agg
  [DV.int (asI (cellOf r0 0)), DV.list false false 1 (asR (cellOf r0 1)), DV.int (asI (cellOf r0 2)),
    DV.list false false 1 (asR (cellOf r0 3))])
   else none) := by kernel_rfl
theorem e13 (ih : VIh) (l0 : List DV) (l1 : List DV) : callF vt1 ih 13 [DV.list true false 1 l0, DV.list true false 1 l1] =
  (bif !decide ((↑l0.length : Int) = (↑l1.length : Int)) then
   some (DV.bool false)
  else ih.at_ 13 0 (tblL [(0, DV.list true false 1 l0), (1, DV.list true false 1 l1), (5, DV.int 0)]) []) := by kernel_rfl
theorem e13_0 (ih : VIh) (l0 : List DV) (l1 : List DV) (x2 : Int) : atF vt1 ih 13 0 (tblL [(0, DV.list true false 1 l0), (1, DV.list true false 1 l1), (5, DV.int x2)]) [] =
  (bif decide (x2 < (↑l0.length : Int)) then
   (bif okR l0 x2 { ag := false, css := [CS.int] } then
    (bif okR l1 x2 { ag := false, css := [CS.int] } then
     (bif !decide (asI (l0.getD x2.toNat DV.undef) = asI (l1.getD x2.toNat DV.undef)) then
      some (DV.bool false)
     else ih.at_ 13 0 (tblL [(0, DV.list true false 1 l0), (1, DV.list true false 1 l1), (5, DV.int (w64 (x2 + 1)))]) [])
    else none)
   else none)
  else some (DV.bool true)) := by kernel_rfl
theorem e17 (ih : VIh) (l0 : List DV) : callF vt1 ih 17 [DV.list true false 1 l0] =
  (bif lenOk [] l0 then
   some (DV.list false false 1 ([] ++ l0))
  else none) := by kernel_rfl
end Go.Proofs
/- Contracts of wide numbers: digits. -/
namespace Go.Proofs
open Go Go.Sx Go.Vx
set_option maxRecDepth 100000
theorem at153 {l : List Int} (hl : Dg l) (hb : l.length ≤ 1048576) : ∀ k : Nat, k ≤ l.length → AtV vt1 153 0 (tblL [(0, L l), (3, .int (k : Int))]) [] (L (digits (val (l.take k)).toNat))
  | 0, _ => AtV.by (fun ih => e153_0 ih _ _) (EvR.no (by simp) (EvR.yes (by simp) (EvR.ret' (by simp [val, digits_zero, L]))))
  | k + 1, hk => by
    have hw : w64 (((k + 1 : Nat) : Int) - 1) = (k : Int) := by rw [w64_id (by omega) (by omega)]; omega
    refine AtV.by (fun ih => e153_0 ih _ _) ?_
    rw [hw, asI_ints]
    have ht : l.take (k + 1) = l.take k ++ [l.getD k 0] := by
      rw [List.take_add_one, List.getD_eq_getElem?_getD, List.getElem?_eq_getElem (by omega)]; rfl
    refine EvR.yes (by simp) (EvR.yes (okR_ok (by omega) (by omega)) (EvR.cond (fun h => ?_) (fun h => ?_)))
    · simp only [Int.toNat_natCast, decide_eq_true_eq] at h
      rw [ht, h, val_snoc0]
      exact at153 hl hb k (by omega)
    · simp only [Int.toNat_natCast, decide_eq_false_iff_not] at h
      refine EvR.yes (by simp; omega) (EvR.ret' ?_)
      have hd : Dg (l.take (k + 1)) := fun d hd => hl d (List.mem_of_mem_take hd)
      rw [ints_take, Int.toNat_natCast]
      have hT : Top (l.take (k + 1)) := by rw [ht]; exact Top_snoc _ h
      rw [digits_val hd hT]
theorem c153 {l : List Int} (hl : Dg l) (hb : l.length ≤ 1048576) : CallV vt1 153 [L l] (L (digits (val l).toNat)) := by
  refine CallV.by (fun ih => e153 ih _) ?_
  have := at153 hl hb l.length (by omega)
  rw [List.take_length] at this
  simp only [List.length_map]
  exact this
/-- wideOf. -/
theorem c129 {l : List Int} (s : Int) (hl : Dg l) (hb : l.length ≤ 1048576) : CallV vt1 129 [.int s, L l] (aggW (if val l = 0 then 0 else s) (digits (val l).toNat)) := by
  have hv := val_nonneg hl
  refine CallV.by (fun ih => e129 ih _ _) (EvR.call (c153 hl hb) (EvR.yes (isRes_L _) (EvR.cond (fun h => ?_) (fun h => ?_))))
  · refine EvR.ret' ?_
    have : digits (val l).toNat = [] := by simpa using h
    have h0 : val l = 0 := by
      have e := val_digits (val l).toNat
      rw [this] at e
      simp only [val] at e; omega
    rw [if_pos h0]; rfl
  · refine EvR.ret' ?_
    have h0 : val l ≠ 0 := by
      intro e
      rw [e] at h
      simp [digits_zero] at h
    rw [if_neg h0]; rfl
theorem c128 {n : Int} (h1 : -9223372036854775807 ≤ n) (h2 : n ≤ 9223372036854775807) : CallV vt1 128 [.int n] (.int n.natAbs) := by
  refine CallV.by (fun ih => e128 ih _) (EvR.ret' ?_)
  rw [w64_id (by omega) (by omega)]
  congr 1
  omega
theorem W_of (n : Int) : aggW (if n = 0 then 0 else if n < 0 then -1 else 1) (digits n.natAbs) = W n := by
  unfold W
  congr 3
  by_cases h : n = 0
  · subst h; rfl
  · by_cases h' : n < 0
    · rw [if_neg h, if_pos h', Int.sign_eq_neg_one_of_neg h']
    · rw [if_neg h, if_neg h', Int.sign_eq_one_of_pos (by omega)]
theorem at95 (s y : Int) : ∀ (k : Nat) (n : Int) (l : List Int), n.natAbs < 1000000000 ^ k → l.length + k ≤ 1000 → -9223372036854775807 ≤ n → n ≤ 9223372036854775807 → Dg l →
    AtV vt1 95 0 (tblL [(0, .int n), (2, .ptr 0 0), (3, .int s), (4, .own 1)]) [.box [.int y, .nils], .row true 1 (ints l)]
      (aggW (if val (l ++ digits n.natAbs) = 0 then 0 else s) (digits (val (l ++ digits n.natAbs)).toNat))
  | k, n, l, hk, hb, h1, h2, hl => by
    refine AtV.by (fun ih => e95_0 ih _ _ _ _) ?_
    by_cases h0 : n = 0
    · subst h0
      refine EvR.no (by simp) (EvR.call (c129 s hl (by omega)) (EvR.yes (isRes_W _ _) (EvR.ret' ?_)))
      simp [digits_zero]
    · have hm : (n.tmod 1000000000).natAbs = n.natAbs % 1000000000 := by
        rw [Int.natAbs_tmod]; rfl
      have hq : (n.tdiv 1000000000).natAbs = n.natAbs / 1000000000 := by
        rw [Int.natAbs_tdiv]; rfl
      cases k with
      | zero => exact absurd hk (by simp; omega)
      | succ k =>
        have hd : digits n.natAbs = ((n.natAbs % 1000000000 : Nat) : Int) :: digits (n.tdiv 1000000000).natAbs := by
          rw [digits_pos (by omega), hq]
        refine EvR.yes (by simp [h0]) (EvR.call (c128 (by omega) (by omega)) (EvR.yes (isRes_int _) (EvR.yes (lenOk_ints (by simp; omega)) ?_)))
        rw [w64_id (by omega) (by omega), asI_int, ints_snoc, hm, hd]
        have hk' : (n.tdiv 1000000000).natAbs < 1000000000 ^ k := by
          rw [hq]; rw [Nat.pow_succ] at hk; omega
        have := at95 s y k (n.tdiv 1000000000) (l ++ [((n.natAbs % 1000000000 : Nat) : Int)]) hk' (by simp; omega) (by omega) (by omega) (by rw [Dg_append]; exact ⟨hl, by rw [Dg_cons]; exact ⟨by omega, Dg_nil⟩⟩)
        simp only [List.append_assoc, List.singleton_append] at this
        exact this
/-- WideOf. -/
theorem c95 {n : Int} (h1 : -9223372036854775807 ≤ n) (h2 : n ≤ 9223372036854775807) : CallV vt1 95 [.int n] (W n) := by
  refine CallV.by (fun ih => e95 ih _) ?_
  have hv : val (digits n.natAbs) = n.natAbs := val_digits _
  have e : (if (n.natAbs : Int) = 0 then (0 : Int) else if n < 0 then -1 else 1) = if n = 0 then 0 else if n < 0 then -1 else 1 := by
    by_cases h : n = 0
    · subst h; rfl
    · rw [if_neg h, if_neg (by omega)]
  refine EvR.cond (fun h => ?_) (fun h => ?_)
  · have := at95 (-1) 0 3 n [] (by omega) (by simp) h1 h2 Dg_nil
    simp only [List.nil_append, hv, Int.toNat_natCast] at this
    simp only [decide_eq_true_eq] at h
    rw [← W_of, ← e, if_pos h]
    exact this
  · have := at95 1 0 3 n [] (by omega) (by simp) h1 h2 Dg_nil
    simp only [List.nil_append, hv, Int.toNat_natCast] at this
    simp only [decide_eq_false_iff_not] at h
    rw [← W_of, ← e, if_neg h]
    exact this
end Go.Proofs
/- Contracts of wide numbers: digits compared, added, subtracted. -/
namespace Go.Proofs
open Go Go.Sx Go.Vx
set_option maxRecDepth 100000
theorem val_lt {l : List Int} (h : Dg l) : val l < 1000000000 ^ l.length := by
  induction l with
  | nil => simp [val]
  | cons d l ih =>
    rw [Dg_cons] at h
    have := ih h.2
    simp only [val, List.length_cons, Int.pow_succ]
    omega
theorem val_ge {l : List Int} (h : Dg l) (ht : Top l) (hn : l ≠ []) : (1000000000 : Int) ^ (l.length - 1) ≤ val l := by
  induction l with
  | nil => exact absurd rfl hn
  | cons d l ih =>
    rw [Dg_cons] at h
    cases l with
    | nil => simp only [Top] at ht; simp only [val, List.length_cons, List.length_nil]; simp; omega
    | cons e l =>
      have := ih h.2 ht (by simp)
      simp only [List.length_cons, Nat.add_sub_cancel] at this ⊢
      rw [Int.pow_succ]
      rw [val]
      omega
theorem pow_mono {i j : Nat} (h : i ≤ j) : (1000000000 : Int) ^ i ≤ 1000000000 ^ j := by
  obtain ⟨k, rfl⟩ : ∃ k, j = i + k := ⟨j - i, by omega⟩
  induction k with
  | zero => exact Int.le_refl _
  | succ k ih =>
    have := ih (by omega)
    have h0 : (0 : Int) ≤ 1000000000 ^ (i + k) := Int.pow_nonneg (by omega)
    rw [← Nat.add_assoc, Int.pow_succ]
    omega
theorem pow_pos' (i : Nat) : (0 : Int) < 1000000000 ^ i := Int.pow_pos (by omega)
theorem val_lt_of_len {a b : List Int} (ha : Dg a) (hb : Dg b) (tb : Top b) (h : a.length < b.length) : val a < val b := by
  have h1 := val_lt ha
  have h2 := val_ge hb tb (by intro e; subst e; simp at h)
  have h3 := pow_mono (i := a.length) (j := b.length - 1) (by omega)
  omega
theorem take_snoc (l : List Int) (k : Nat) (h : k < l.length) : l.take (k + 1) = l.take k ++ [l.getD k 0] := by
  rw [List.take_add_one, List.getD_eq_getElem?_getD, List.getElem?_eq_getElem h]; rfl
theorem val_take (l : List Int) (k : Nat) (h : k < l.length) : val (l.take (k + 1)) = val (l.take k) + 1000000000 ^ k * l.getD k 0 := by
  rw [take_snoc l k h, val_append]
  simp only [val, List.length_take]
  rw [Nat.min_eq_left (by omega)]
  simp
theorem Dg_take {l : List Int} (h : Dg l) (k : Nat) : Dg (l.take k) := fun d hd => h d (List.mem_of_mem_take hd)
theorem val_take_lt {l : List Int} (h : Dg l) {k : Nat} (hk : k ≤ l.length) : val (l.take k) < 1000000000 ^ k := by
  have := val_lt (Dg_take h k)
  rw [List.length_take, Nat.min_eq_left hk] at this
  exact this
theorem cmp_top {x y p a b : Int} (hx : 0 ≤ x) (hy : 0 ≤ y) (hx' : x < p) (h : a < b) : x + p * a < y + p * b := by
  have h1 : p * (b - a) ≥ p * 1 := Int.mul_le_mul_of_nonneg_left (by omega) (by omega)
  have h2 : p * (b - a) = p * b - p * a := Int.mul_sub p b a
  omega
theorem at135 {a b : List Int} (ha : Dg a) (hb : Dg b) (hl : a.length = b.length) (hn : a.length ≤ 1048576) : ∀ k : Nat, k ≤ a.length →
    AtV vt1 135 0 (tblL [(0, L a), (1, L b), (5, .int ((k : Int) - 1))]) [] (.int (val (a.take k) - val (b.take k)).sign)
  | 0, _ => AtV.by (fun ih => e135_0 ih _ _ _) (EvR.no (by simp) (EvR.ret' (by simp [val])))
  | k + 1, hk => by
    have e1 : (((k + 1 : Nat) : Int) - 1) = (k : Int) := by omega
    rw [e1]
    refine AtV.by (fun ih => e135_0 ih _ _ _) ?_
    rw [asI_ints, asI_ints, w64_id (by omega) (by omega)]
    have hA := okR_ok (l := a) (i := (k : Int)) (by omega) (by omega)
    have hB := okR_ok (l := b) (i := (k : Int)) (by omega) (by omega)
    have va := val_take a k (by omega)
    have vb := val_take b k (by omega)
    have la := val_take_lt ha (k := k) (by omega)
    have lb := val_take_lt hb (k := k) (by omega)
    have na := val_nonneg (Dg_take ha k)
    have nb := val_nonneg (Dg_take hb k)
    refine EvR.yes (by simp) (EvR.yes hA (EvR.yes hB (EvR.cond (fun h => ?_) (fun h => EvR.yes hA (EvR.yes hB (EvR.cond (fun h' => ?_) (fun h' => ?_))))))) <;>
      simp only [Int.toNat_natCast, decide_eq_true_eq, decide_eq_false_iff_not] at *
    · refine EvR.ret' ?_
      have := cmp_top na nb la h
      rw [Int.sign_eq_neg_one_of_neg (by omega)]
    · refine EvR.ret' ?_
      have := cmp_top nb na lb h'
      rw [Int.sign_eq_one_of_pos (by omega)]
    · have hd : a.getD k 0 = b.getD k 0 := by omega
      have := at135 ha hb hl hn k (by omega)
      have e : val (a.take (k + 1)) - val (b.take (k + 1)) = val (a.take k) - val (b.take k) := by rw [va, vb, hd]; omega
      rw [e]; exact this
/-- cmpDigits. -/
theorem c135 {a b : List Int} (ha : Dg a) (hb : Dg b) (ta : Top a) (tb : Top b) (na : a.length ≤ 1048576) (nb : b.length ≤ 1048576) : CallV vt1 135 [L a, L b] (.int (val a - val b).sign) := by
  refine CallV.by (fun ih => e135 ih _ _) ?_
  simp only [List.length_map]
  refine EvR.cond (fun h => EvR.cond (fun h' => EvR.ret' ?_) (fun h' => EvR.ret' ?_)) (fun h => ?_) <;> simp only [Bool.not_eq_true', decide_eq_true_eq, decide_eq_false_iff_not, Bool.not_eq_false', Int.natCast_inj] at *
  · have := val_lt_of_len ha hb tb (by omega)
    rw [Int.sign_eq_neg_one_of_neg (by omega)]
  · have := val_lt_of_len hb ha ta (by omega)
    rw [Int.sign_eq_one_of_pos (by omega)]
  · have := at135 ha hb h na a.length (by omega)
    rw [List.take_length, h, List.take_length] at this
    rw [w64_id (by omega) (by omega), h]
    exact this
theorem c156 (l : List Int) {i : Int} (h0 : 0 ≤ i) : CallV vt1 156 [L l, .int i] (.int (l.getD i.toNat 0)) := by
  refine CallV.by (fun ih => e156 ih _ _) (EvR.cond (fun h => EvR.yes (okR_ok h0 (by simpa using h)) (EvR.ret' ?_)) (fun h => EvR.ret' ?_))
  · rw [asI_ints]
  · congr 1
    rw [List.getD_eq_getElem?_getD, List.getElem?_eq_none (by simp at h; omega)]; rfl
end Go.Proofs
/- Contracts of wide numbers: digits added, subtracted; sums. -/
namespace Go.Proofs
open Go Go.Sx Go.Vx
set_option maxRecDepth 100000
theorem getD_Dg {l : List Int} (h : Dg l) (i : Nat) : 0 ≤ l.getD i 0 ∧ l.getD i 0 < 1000000000 := by
  rw [List.getD_eq_getElem?_getD]
  cases e : l[i]? with
  | none => simp
  | some d => exact h d (List.mem_of_getElem? e)
theorem val_drop (l : List Int) (i : Nat) : val (l.drop i) = l.getD i 0 + 1000000000 * val (l.drop (i + 1)) := by
  by_cases h : i < l.length
  · rw [List.drop_eq_getElem_cons h, val, List.getD_eq_getElem?_getD, List.getElem?_eq_getElem h]; rfl
  · rw [List.drop_eq_nil_of_le (by omega), List.drop_eq_nil_of_le (by omega), List.getD_eq_getElem?_getD, List.getElem?_eq_none (by omega)]; rfl
theorem Dg_drop {l : List Int} (h : Dg l) (k : Nat) : Dg (l.drop k) := fun d hd => h d (List.mem_of_mem_drop hd)
theorem at134 {a b : List Int} (ha : Dg a) (hb : Dg b) (na : a.length ≤ 500000) (nb : b.length ≤ 500000) : ∀ (n i : Nat) (m : List Int) (c : Int), max a.length b.length + 1 ≤ i + n → i ≤ max a.length b.length + 1 → m.length = i → Dg m → (c = 0 ∨ c = 1) → (max a.length b.length < i → c = 0) →
    ∃ r, AtV vt1 134 0 (tblL [(0, L a), (1, L b), (5, .own 0), (6, .int c), (7, .int (i : Int))]) [.row true 1 (ints m)] (L r) ∧ Dg r ∧ r.length ≤ max a.length b.length + 1 ∧ val r = val m + 1000000000 ^ i * (val (a.drop i) + val (b.drop i) + c)
  | n, i, m, c, h1, h2, h3, hm, hc, hc0 => by
    by_cases hgo : i < a.length ∨ i < b.length ∨ 0 < c
    · cases n with
      | zero => have := hc0 (by omega); omega
      | succ n =>
        have ga := getD_Dg ha i
        have gb := getD_Dg hb i
        have hs : w64 (w64 (a.getD i 0 + b.getD i 0) + c) = a.getD i 0 + b.getD i 0 + c := by
          rw [w64_id (n := a.getD i 0 + b.getD i 0) (by omega) (by omega), w64_id (by omega) (by omega)]
        generalize hS : a.getD i 0 + b.getD i 0 + c = s at hs
        have hs0 : 0 ≤ s := by omega
        have hr : s.tmod 1000000000 = s % 1000000000 := Int.tmod_eq_emod_of_nonneg hs0
        have hq : s.tdiv 1000000000 = s / 1000000000 := Int.tdiv_eq_ediv_of_nonneg hs0
        obtain ⟨r, q1, q2, q3, q4⟩ := at134 ha hb na nb n (i + 1) (m ++ [s % 1000000000]) (s / 1000000000) (by omega) (by omega) (by simp [h3])
          (by rw [Dg_append]; exact ⟨hm, by rw [Dg_cons]; exact ⟨by omega, Dg_nil⟩⟩) (by omega) (fun h => by
            have : a.getD i 0 = 0 := by rw [List.getD_eq_getElem?_getD, List.getElem?_eq_none (by omega)]; rfl
            have : b.getD i 0 = 0 := by rw [List.getD_eq_getElem?_getD, List.getElem?_eq_none (by omega)]; rfl
            omega)
        have e1 : ((i + 1 : Nat) : Int) = (i : Int) + 1 := by omega
        rw [e1] at q1
        refine ⟨r, ?_, q2, q3, ?_⟩
        · have c1 := c156 a (i := (i : Int)) (by omega)
          have c2 := c156 b (i := (i : Int)) (by omega)
          rw [Int.toNat_natCast] at c1 c2
          have hlen : lenOk (ints m) [DV.int (s % 1000000000)] = true := lenOk_ints (by simp; omega)
          have hw : w64 ((i : Int) + 1) = (i : Int) + 1 := w64_id (by omega) (by omega)
          have hw2 : w64 (s / 1000000000) = s / 1000000000 := w64_id (by omega) (by omega)
          refine AtV.by (fun ih => e134_0 ih _ _ _ _ _) ?_
          refine EvR.cond (fun _ => ?_) (fun g1 => EvR.cond (fun _ => ?_) (fun g2 => EvR.cond (fun _ => ?_) (fun g3 => ?_)))
          · refine EvR.call c1 (EvR.yes (isRes_int _) (EvR.call c2 (EvR.yes (isRes_int _) ?_)))
            simp only [asI_int, hs, hr, hq, hw, hw2, ints_snoc]
            exact EvR.yes hlen q1
          · refine EvR.call c1 (EvR.yes (isRes_int _) (EvR.call c2 (EvR.yes (isRes_int _) ?_)))
            simp only [asI_int, hs, hr, hq, hw, hw2, ints_snoc]
            exact EvR.yes hlen q1
          · refine EvR.call c1 (EvR.yes (isRes_int _) (EvR.call c2 (EvR.yes (isRes_int _) ?_)))
            simp only [asI_int, hs, hr, hq, hw, hw2, ints_snoc]
            exact EvR.yes hlen q1
          · simp at g1 g2 g3; omega
        · rw [q4, val_append, h3, val_drop a i, val_drop b i, Int.pow_succ]
          simp only [val]
          have hdm : s = s % 1000000000 + 1000000000 * (s / 1000000000) := by omega
          generalize s % 1000000000 = u at *
          generalize s / 1000000000 = v at *
          generalize (1000000000 : Int) ^ i = p at *
          have : a.getD i 0 + b.getD i 0 + c = u + 1000000000 * v := by omega
          grind
    · refine ⟨m, ?_, hm, by omega, ?_⟩
      · refine AtV.by (fun ih => e134_0 ih _ _ _ _ _) (EvR.no (by simp; omega) (EvR.no (by simp; omega) (EvR.no (by simp; omega) (EvR.ret' rfl))))
      · rw [List.drop_eq_nil_of_le (by omega), List.drop_eq_nil_of_le (by omega)]
        have : c = 0 := by omega
        subst this
        simp [val]
/-- addDigits. -/
theorem c134 {a b : List Int} (ha : Dg a) (hb : Dg b) (na : a.length ≤ 500000) (nb : b.length ≤ 500000) : ∃ r, CallV vt1 134 [L a, L b] (L r) ∧ Dg r ∧ r.length ≤ max a.length b.length + 1 ∧ val r = val a + val b := by
  obtain ⟨r, h1, h2, h3, h4⟩ := at134 ha hb na nb (max a.length b.length + 1) 0 [] 0 (by omega) (by omega) rfl Dg_nil (.inl rfl) (fun _ => rfl)
  refine ⟨r, CallV.by (fun ih => e134 ih _ _) h1, h2, h3, ?_⟩
  rw [h4]; simp [val]
theorem at136 {a b : List Int} (ha : Dg a) (hb : Dg b) (na : a.length ≤ 500000) (hv : val b ≤ val a) : ∀ (n i : Nat) (m : List Int) (c : Int), a.length = i + n → m.length = i → Dg m → (c = 0 ∨ c = 1) →
    val m + 1000000000 ^ i * (val (a.drop i) - val (b.drop i) - c) = val a - val b →
    AtV vt1 136 0 (tblL [(0, L a), (1, L b), (5, .own 0), (6, .int c), (7, .int (i : Int))]) [.row true 1 (ints m)] (L (digits (val a - val b).toNat))
  | 0, i, m, c, h1, h3, hm, hc, hinv => by
    refine AtV.by (fun ih => e136_0 ih _ _ _ _ _) ?_
    have hda : a.drop i = [] := List.drop_eq_nil_of_le (by omega)
    rw [hda] at hinv
    have hm1 := val_lt hm
    have hb1 := val_nonneg (Dg_drop hb i)
    have hm0 := val_nonneg hm
    rw [h3] at hm1
    have key : val (b.drop i) + c = 0 := by
      by_cases hz : val (b.drop i) + c = 0
      · exact hz
      · have hp := pow_pos' i
        have : (1000000000 : Int) ^ i * 1 ≤ 1000000000 ^ i * (val (b.drop i) + c) := Int.mul_le_mul_of_nonneg_left (by omega) (by omega)
        simp only [val] at hinv
        have e : (1000000000 : Int) ^ i * (0 - val (b.drop i) - c) = - (1000000000 ^ i * (val (b.drop i) + c)) := by grind
        rw [e] at hinv
        omega
    have e : (val ([] : List Int) - val (b.drop i) - c) = 0 := by simp only [val]; omega
    rw [e] at hinv
    have hvm : val a - val b = val m := by omega
    have := c153 hm (by omega)
    rw [hvm]
    exact EvR.no (by simp; omega) (EvR.call this (EvR.yes (isRes_L _) (EvR.ret' rfl)))
  | n + 1, i, m, c, h1, h3, hm, hc, hinv => by
    have ga := getD_Dg ha i
    have gb := getD_Dg hb i
    have hs : w64 (w64 (a.getD i 0 - b.getD i 0) - c) = a.getD i 0 - b.getD i 0 - c := by
      rw [w64_id (n := a.getD i 0 - b.getD i 0) (by omega) (by omega), w64_id (by omega) (by omega)]
    have e1 : ((i + 1 : Nat) : Int) = (i : Int) + 1 := by omega
    have hw : w64 ((i : Int) + 1) = (i : Int) + 1 := w64_id (by omega) (by omega)
    have c2 := c156 b (i := (i : Int)) (by omega)
    rw [Int.toNat_natCast] at c2
    rw [val_drop a i, val_drop b i] at hinv
    generalize hS : a.getD i 0 - b.getD i 0 - c = s at hs
    refine AtV.by (fun ih => e136_0 ih _ _ _ _ _) (EvR.yes (by simp; omega) (EvR.yes (okR_ok (by omega) (by omega)) (EvR.call c2 (EvR.yes (isRes_int _) ?_))))
    simp only [asI_int, asI_ints, Int.toNat_natCast, hs, hw, ints_snoc]
    refine EvR.cond (fun h => ?_) (fun h => ?_) <;> simp only [decide_eq_true_eq, decide_eq_false_iff_not] at h
    · have hw2 : w64 (s + 1000000000) = s + 1000000000 := w64_id (by omega) (by omega)
      rw [hw2]
      have := at136 ha hb na hv n (i + 1) (m ++ [s + 1000000000]) 1 (by omega) (by simp [h3]) (by rw [Dg_append]; exact ⟨hm, by rw [Dg_cons]; exact ⟨by omega, Dg_nil⟩⟩) (.inr rfl) (by
        rw [← hinv, val_append, h3, Int.pow_succ]
        simp only [val]
        generalize (1000000000 : Int) ^ i = p at *
        grind)
      rw [e1] at this
      exact EvR.yes (lenOk_ints (by simp; omega)) this
    · have := at136 ha hb na hv n (i + 1) (m ++ [s]) 0 (by omega) (by simp [h3]) (by rw [Dg_append]; exact ⟨hm, by rw [Dg_cons]; exact ⟨by omega, Dg_nil⟩⟩) (.inl rfl) (by
        rw [← hinv, val_append, h3, Int.pow_succ]
        simp only [val]
        generalize (1000000000 : Int) ^ i = p at *
        grind)
      rw [e1] at this
      exact EvR.yes (lenOk_ints (by simp; omega)) this
/-- subDigits. -/
theorem c136 {a b : List Int} (ha : Dg a) (hb : Dg b) (na : a.length ≤ 500000) (hv : val b ≤ val a) : CallV vt1 136 [L a, L b] (L (digits (val a - val b).toNat)) := by
  refine CallV.by (fun ih => e136 ih _ _) ?_
  exact at136 ha hb na hv a.length 0 [] 0 (by omega) rfl Dg_nil (.inl rfl) (by simp [val])
end Go.Proofs
/- Contracts of wide numbers: sums. -/
namespace Go.Proofs
open Go Go.Sx Go.Vx
set_option maxRecDepth 100000
theorem lt_dl (n : Int) : n.natAbs < 1000000000 ^ dl n := lt_of_digits _
theorem dl_le {n : Int} {k : Nat} (h : n.natAbs < 1000000000 ^ k) : dl n ≤ k := length_digits_le h
theorem dl_neg (n : Int) : dl (-n) = dl n := by unfold dl; rw [Int.natAbs_neg]
theorem npow_mono {i j : Nat} (h : i ≤ j) : (1000000000 : Nat) ^ i ≤ 1000000000 ^ j := Nat.pow_le_pow_right (by omega) h
theorem dl_add (a b : Int) : dl (a + b) ≤ max (dl a) (dl b) + 1 := by
  apply dl_le
  have h1 := lt_dl a
  have h2 := lt_dl b
  have h3 := npow_mono (Nat.le_max_left (dl a) (dl b))
  have h4 := npow_mono (Nat.le_max_right (dl a) (dl b))
  rw [Nat.pow_succ]
  omega
theorem dl_sub (a b : Int) : dl (a - b) ≤ max (dl a) (dl b) + 1 := by
  have := dl_add a (-b)
  rw [dl_neg] at this
  exact this
theorem dl_mul (a b : Int) : dl (a * b) ≤ dl a + dl b := by
  apply dl_le
  rw [Int.natAbs_mul, Nat.pow_add]
  have h1 := lt_dl a
  have h2 := lt_dl b
  exact Nat.mul_lt_mul_of_le_of_lt (Nat.le_of_lt h1) h2 (by omega)
theorem dl_small {n : Int} (h1 : -9223372036854775808 ≤ n) (h2 : n ≤ 9223372036854775807) : dl n ≤ 3 := dl_le (by omega)
theorem dl_mono {a b : Int} (h : a.natAbs ≤ b.natAbs) : dl a ≤ dl b := dl_le (Nat.lt_of_le_of_lt h (lt_dl b))
theorem sign_w64 (n : Int) : w64 (0 - n.sign) = (-n).sign := by
  rw [Int.sign_neg]
  have : n.sign = 1 ∨ n.sign = 0 ∨ n.sign = -1 := by
    rcases Int.lt_trichotomy n 0 with h | h | h
    · exact .inr (.inr (Int.sign_eq_neg_one_of_neg h))
    · subst h; exact .inr (.inl rfl)
    · exact .inl (Int.sign_eq_one_of_pos h)
  rw [w64_id (by omega) (by omega)]; omega
theorem isRes_W' (n : Int) : isRes [⟨true, [.int, .list 1]⟩] (W n) = true := rfl
theorem c130 (n : Int) : CallV vt1 130 [W n] (W (-n)) := by
  refine CallV.by (fun ih => e130 ih _ _) (EvR.ret' ?_)
  rw [sign_w64]; unfold W; rw [Int.natAbs_neg]
theorem c106 (n : Int) : CallV vt1 106 [W n] (.int n.sign) := CallV.by (fun ih => e106 ih _ _) EvR.ret
/-- A number from its sign and its size. -/
theorem W_mk {s v n : Int} (hv : v = n.natAbs) (hs : n ≠ 0 → s = n.sign) : aggW (if v = 0 then 0 else s) (digits v.toNat) = W n := by
  unfold W
  subst hv
  rw [Int.toNat_natCast]
  congr 3
  by_cases h : n = 0
  · subst h; rfl
  · rw [if_neg (by omega), hs h]
theorem val_dig (n : Int) : val (digits n.natAbs) = n.natAbs := val_digits _
theorem sgn3 (n : Int) : (n.sign = 1 ∧ 0 < n) ∨ (n.sign = 0 ∧ n = 0) ∨ (n.sign = -1 ∧ n < 0) := by
  rcases Int.lt_trichotomy n 0 with h | h | h
  · exact .inr (.inr ⟨Int.sign_eq_neg_one_of_neg h, h⟩)
  · subst h; exact .inr (.inl ⟨rfl, rfl⟩)
  · exact .inl ⟨Int.sign_eq_one_of_pos h, h⟩
/-- WideAdd. -/
theorem c97 {a b : Int} (ha : dl a ≤ 400000) (hb : dl b ≤ 400000) : CallV vt1 97 [W a, W b] (W (a + b)) := by
  refine CallV.by (fun ih => e97 ih _ _ _ _) ?_
  have da := Dg_digits a.natAbs
  have db := Dg_digits b.natAbs
  have va := val_dig a
  have vb := val_dig b
  have la : (digits a.natAbs).length ≤ 400000 := ha
  have lb : (digits b.natAbs).length ≤ 400000 := hb
  rcases sgn3 a with ⟨sa, pa⟩ | ⟨sa, pa⟩ | ⟨sa, pa⟩
  rotate_left
  · subst pa
    exact EvR.yes (by simp) (EvR.ret' (by rw [Int.zero_add]; rfl))
  all_goals
    refine EvR.no (by simp; omega) ?_
    rcases sgn3 b with ⟨sb, pb⟩ | ⟨sb, pb⟩ | ⟨sb, pb⟩
    rotate_left
    · subst pb
      exact EvR.yes (by simp) (EvR.ret' (by rw [Int.add_zero]; rfl))
    all_goals
      refine EvR.no (by simp; omega) ?_
      first
      | refine EvR.yes (by simp [sa, sb]) ?_
        obtain ⟨r, h1, h2, h3, h4⟩ := c134 da db (by omega) (by omega)
        refine EvR.call h1 (EvR.yes (isRes_L _) (EvR.call (c129 _ h2 (by omega)) (EvR.yes (isRes_W _ _) (EvR.ret' ?_))))
        exact W_mk (by rw [h4, va, vb]; omega) (fun _ => by
          rw [sa]
          first
          | rw [Int.sign_eq_one_of_pos (by omega)]
          | rw [Int.sign_eq_neg_one_of_neg (by omega)])
      | refine EvR.no (by simp [sa, sb]) ?_
        refine EvR.call (c135 da db (Top_digits _) (Top_digits _) (by omega) (by omega)) (EvR.yes (isRes_int _) ?_)
        rw [va, vb]
        simp only [asI_int]
        rcases sgn3 ((a.natAbs : Int) - b.natAbs) with ⟨sc, pc⟩ | ⟨sc, pc⟩ | ⟨sc, pc⟩
        · refine EvR.no (by simp [sc]) (EvR.yes (by simp [sc]) (EvR.call (c136 da db (by omega) (by omega)) (EvR.yes (isRes_L _) (EvR.call (c129 _ (Dg_digits _) (by
            have := length_digits_le (n := (val (digits a.natAbs) - val (digits b.natAbs)).toNat) (k := dl a) (by have := lt_dl a; omega)
            omega)) (EvR.yes (isRes_W _ _) (EvR.ret' ?_))))))
          exact W_mk (by rw [val_digits, va, vb]; omega) (fun _ => by
            rw [sa]
            first
            | rw [Int.sign_eq_one_of_pos (by omega)]
            | rw [Int.sign_eq_neg_one_of_neg (by omega)])
        · refine EvR.yes (by simp [sc]) (EvR.ret' ?_)
          have : a + b = 0 := by omega
          rw [this]
          unfold W
          simp [digits_zero]
        · refine EvR.no (by simp [sc]) (EvR.no (by simp [sc]) (EvR.call (c136 db da (by omega) (by omega)) (EvR.yes (isRes_L _) (EvR.call (c129 _ (Dg_digits _) (by
            have := length_digits_le (n := (val (digits b.natAbs) - val (digits a.natAbs)).toNat) (k := dl b) (by have := lt_dl b; omega)
            omega)) (EvR.yes (isRes_W _ _) (EvR.ret' ?_))))))
          exact W_mk (by rw [val_digits, va, vb]; omega) (fun _ => by
            rw [sb]
            first
            | rw [Int.sign_eq_one_of_pos (by omega)]
            | rw [Int.sign_eq_neg_one_of_neg (by omega)])
/-- WideSub. -/
theorem c155 {a b : Int} (ha : dl a ≤ 400000) (hb : dl b ≤ 400000) : CallV vt1 155 [W a, W b] (W (a - b)) := by
  refine CallV.by (fun ih => e155 ih _ _ _ _) ?_
  exact EvR.call (c130 b) (EvR.yes (isRes_W' _) (EvR.call (c97 (a := a) (b := -b) ha (by rw [dl_neg]; exact hb)) (EvR.yes (isRes_W' _) (EvR.ret' rfl))))
/-- WideCmp. -/
theorem c132 {a b : Int} (ha : dl a ≤ 400000) (hb : dl b ≤ 400000) : CallV vt1 132 [W a, W b] (.int (a - b).sign) := by
  refine CallV.by (fun ih => e132 ih _ _ _ _) ?_
  exact EvR.call (c155 ha hb) (EvR.yes (isRes_W' _) (EvR.ret' rfl))
/-- wideSize. -/
theorem c154 (a : Int) : CallV vt1 154 [W a] (W a.natAbs) := by
  refine CallV.by (fun ih => e154 ih _ _) (EvR.cond (fun h => ?_) (fun h => ?_))
  · have : a < 0 := by rcases sgn3 a with ⟨s, p⟩ | ⟨s, p⟩ | ⟨s, p⟩ <;> simp [s] at h <;> omega
    refine EvR.call (c130 a) (EvR.yes (isRes_W' _) (EvR.ret' ?_))
    have e : -a = (a.natAbs : Int) := by omega
    rw [e]; rfl
  · have : 0 ≤ a := by rcases sgn3 a with ⟨s, p⟩ | ⟨s, p⟩ | ⟨s, p⟩ <;> simp [s] at h <;> omega
    refine EvR.ret' ?_
    have e : a = (a.natAbs : Int) := by omega
    rw [← e]; rfl
end Go.Proofs
/- Contracts of wide numbers: products. -/
namespace Go.Proofs
open Go Go.Sx Go.Vx
set_option maxRecDepth 100000
theorem val_set (o : List Int) (p : Nat) (x : Int) (h : p < o.length) : val (o.set p x) = val o + 1000000000 ^ p * (x - o.getD p 0) := by
  induction o generalizing p with
  | nil => simp at h
  | cons d o ih =>
    cases p with
    | zero => simp only [List.set_cons_zero, val, List.getD_cons_zero]; simp; omega
    | succ p =>
      simp only [List.set_cons_succ, val, List.getD_cons_succ]
      rw [ih p (by simpa using h), Int.pow_succ]
      generalize (1000000000 : Int) ^ p = q
      grind
theorem Dg_set {o : List Int} (h : Dg o) (p : Nat) {x : Int} (hx : 0 ≤ x ∧ x < 1000000000) : Dg (o.set p x) := by
  intro d hd
  rcases List.mem_or_eq_of_mem_set hd with h' | h'
  · exact h d h'
  · subst h'; exact hx
theorem getD_set_ne (o : List Int) {p j : Nat} (x : Int) (h : p ≠ j) : (o.set p x).getD j 0 = o.getD j 0 := by
  rw [List.getD_eq_getElem?_getD, List.getD_eq_getElem?_getD, List.getElem?_set_ne h]
section
variable {a b : List Int} (ha : Dg a) (hb : Dg b) (na : a.length ≤ 400000) (nb : b.length ≤ 400000) (sa sb z : Int) (hs : -1 ≤ sa * sb ∧ sa * sb ≤ 1)
include ha hb na nb hs
theorem at98 : ∀ n i : Nat, a.length = i + n → ∀ o : List Int, Dg o → o.length = a.length + b.length + 1 → (∀ j, i + b.length ≤ j → o.getD j 0 = 0) → val o + 1000000000 ^ i * (val (a.drop i) * val b) = val a * val b →
    AtV vt1 98 0 (tblL [(2, .ptr 0 0), (3, .ptr 1 0), (4, .ptr 2 0), (5, .own 3), (6, .int (i : Int))]) [.box [.int sa, L a], .box [.int sb, L b], .box [.int z, .nils], .row false 1 (ints o)]
      (aggW (if val a * val b = 0 then 0 else sa * sb) (digits (val a * val b).toNat))
  | 0, i, hn, o, ho, hl, hz, hv => by
    refine AtV.by (fun ih => e98_0 ih _ _ _ _ _ _ _) ?_
    have hd : a.drop i = [] := List.drop_eq_nil_of_le (by omega)
    rw [hd] at hv
    have : val o = val a * val b := by simp only [val] at hv; simpa using hv
    have c := c129 (sa * sb) ho (by omega)
    rw [this] at c
    refine EvR.no (by simp; omega) ?_
    rw [w64_id (by omega) (by omega)]
    exact EvR.call c (EvR.yes (isRes_W _ _) (EvR.ret' rfl))
  | n + 1, i, hn, o, ho, hl, hz, hv => by
    refine AtV.by (fun ih => e98_0 ih _ _ _ _ _ _ _) (EvR.yes (by simp; omega) ?_)
    have ga := getD_Dg ha i
    -- the inner loop
    have inner : ∀ m k : Nat, b.length = k + m → ∀ (o : List Int) (c : Int), Dg o → o.length = a.length + b.length + 1 → (∀ j, i + b.length ≤ j → o.getD j 0 = 0) → 0 ≤ c → c < 1000000000 →
        val o + 1000000000 ^ (i + k) * (c + a.getD i 0 * val (b.drop k)) + 1000000000 ^ (i + 1) * (val (a.drop (i + 1)) * val b) = val a * val b →
        AtV vt1 98 1 (tblL [(2, .ptr 0 0), (3, .ptr 1 0), (4, .ptr 2 0), (5, .own 3), (6, .int (i : Int)), (7, .int c), (8, .int (k : Int))]) [.box [.int sa, L a], .box [.int sb, L b], .box [.int z, .nils], .row false 1 (ints o)]
          (aggW (if val a * val b = 0 then 0 else sa * sb) (digits (val a * val b).toNat)) := by
      intro m
      induction m with
      | zero =>
        intro k hk o c ho hl hz h0 h1 hv
        refine AtV.by (fun ih => e98_1 ih _ _ _ _ _ _ _ _ _) (EvR.no (by simp; omega) ?_)
        have hd : b.drop k = [] := List.drop_eq_nil_of_le (by omega)
        have hk' : k = b.length := by omega
        subst hk'
        rw [hd] at hv
        have hw : w64 ((i : Int) + ((ints b).length : Int)) = ((i + b.length : Nat) : Int) := by rw [w64_id] <;> simp <;> omega
        have hin : inR (((i + b.length : Nat) : Int)) (ints o) = true := by rw [inR_ints]; simp; omega
        have hz0 := hz (i + b.length) (by omega)
        have hw1 : w64 ((i : Int) + 1) = (((i + 1 : Nat)) : Int) := by rw [w64_id (by omega) (by omega)]; omega
        rw [hw]
        refine EvR.yes hin (EvR.yes (isRow_ints _ _ (by rw [Int.toNat_natCast]; omega)) (EvR.yes hin ?_))
        rw [asI_ints, Int.toNat_natCast, hz0, hw1, w64_id (n := 0 + c) (by omega) (by omega), ints_set, Int.zero_add]
        refine at98 n (i + 1) (by omega) _ (Dg_set ho _ ⟨h0, h1⟩) (by simpa using hl) (fun j hj => ?_) ?_
        · rw [getD_set_ne _ _ (by omega)]; exact hz j (by omega)
        · rw [val_set _ _ _ (by omega), hz0, ← hv]
          simp only [val]
          generalize (1000000000 : Int) ^ (i + b.length) = q
          grind
      | succ m ihm =>
        intro k hk o c ho hl hz h0 h1 hv
        have gb := getD_Dg hb k
        have go := getD_Dg ho (i + k)
        have hprod0 : 0 ≤ a.getD i 0 * b.getD k 0 := Int.mul_nonneg ga.1 gb.1
        have hprod1 : a.getD i 0 * b.getD k 0 ≤ 999999999 * 999999999 := Int.mul_le_mul (by omega) (by omega) gb.1 (by omega)
        have hw : w64 ((i : Int) + (k : Int)) = ((i + k : Nat) : Int) := by rw [w64_id (by omega) (by omega)]; omega
        have hw1 : w64 ((k : Int) + 1) = (((k + 1 : Nat)) : Int) := by rw [w64_id (by omega) (by omega)]; omega
        have hin : inR (((i + k : Nat) : Int)) (ints o) = true := by rw [inR_ints]; simp; omega
        refine AtV.by (fun ih => e98_1 ih _ _ _ _ _ _ _ _ _) (EvR.yes (by simp; omega) ?_)
        rw [hw]
        refine EvR.yes hin (EvR.yes (isRow_ints _ _ (by rw [Int.toNat_natCast]; omega)) (EvR.yes (okR_ok (by omega) (by omega)) (EvR.yes (okR_ok (by omega) (by omega)) (EvR.yes hin ?_))))
        rw [asI_ints, asI_ints, asI_ints, Int.toNat_natCast, Int.toNat_natCast, Int.toNat_natCast, hw1]
        generalize hP : a.getD i 0 * b.getD k 0 = P at *
        have hS : w64 (w64 (o.getD (i + k) 0 + w64 P) + c) = o.getD (i + k) 0 + P + c := by
          rw [w64_id (n := P) (by omega) (by omega), w64_id (n := o.getD (i + k) 0 + P) (by omega) (by omega), w64_id (by omega) (by omega)]
        rw [hS]
        generalize hs' : o.getD (i + k) 0 + P + c = s
        have hs0 : 0 ≤ s := by omega
        rw [Int.tmod_eq_emod_of_nonneg hs0, Int.tdiv_eq_ediv_of_nonneg hs0, w64_id (n := s / 1000000000) (by omega) (by omega), ints_set]
        refine ihm (k + 1) (by omega) _ _ (Dg_set ho _ ⟨by omega, by omega⟩) (by simpa using hl) (fun j hj => ?_) (by omega) (by omega) ?_
        · rw [getD_set_ne _ _ (by omega)]; exact hz j (by omega)
        · rw [val_set _ _ _ (by omega), ← hv, val_drop b k, ← Nat.add_assoc, Int.pow_succ (1000000000 : Int) (i + k)]
          have hdm : s % 1000000000 + 1000000000 * (s / 1000000000) = s := by omega
          generalize s % 1000000000 = u at *
          generalize s / 1000000000 = v at *
          generalize (1000000000 : Int) ^ (i + k) = q
          generalize (1000000000 : Int) ^ (i + 1) * (val (a.drop (i + 1)) * val b) = r
          have e1 : a.getD i 0 * (b.getD k 0 + 1000000000 * val (b.drop (k + 1))) = P + 1000000000 * (a.getD i 0 * val (b.drop (k + 1))) := by rw [← hP]; grind
          rw [e1]
          generalize a.getD i 0 * val (b.drop (k + 1)) = y
          have e2 : o.getD (i + k) 0 = u + 1000000000 * v - P - c := by omega
          rw [e2]
          grind
    refine inner b.length 0 (by omega) o 0 ho hl hz (by omega) (by omega) ?_
    rw [← hv, val_drop a i, List.drop_zero, Nat.add_zero, Int.pow_succ]
    generalize (1000000000 : Int) ^ i = q
    grind
end
theorem sign_mul_bd (a b : Int) : -1 ≤ a.sign * b.sign ∧ a.sign * b.sign ≤ 1 := by
  rcases sgn3 a with ⟨s, _⟩ | ⟨s, _⟩ | ⟨s, _⟩ <;> rcases sgn3 b with ⟨t, _⟩ | ⟨t, _⟩ | ⟨t, _⟩ <;> rw [s, t] <;> decide
theorem val_rep0 (n : Nat) : val (List.replicate n 0) = 0 := by
  induction n with
  | zero => rfl
  | succ n ih => rw [List.replicate_succ, val, ih]; rfl
theorem getD_rep0 (n j : Nat) : (List.replicate n (0 : Int)).getD j 0 = 0 := by
  rw [List.getD_eq_getElem?_getD, List.getElem?_replicate]
  split <;> rfl
/-- WideMul. -/
theorem c98 {a b : Int} (ha : dl a ≤ 400000) (hb : dl b ≤ 400000) : CallV vt1 98 [W a, W b] (W (a * b)) := by
  refine CallV.by (fun ih => e98 ih _ _ _ _) ?_
  have la : (digits a.natAbs).length ≤ 400000 := ha
  have lb : (digits b.natAbs).length ≤ 400000 := hb
  have hw : w64 (w64 (((ints (digits a.natAbs)).length : Int) + ((ints (digits b.natAbs)).length : Int)) + 1) = (((digits a.natAbs).length + (digits b.natAbs).length + 1 : Nat) : Int) := by
    simp only [List.length_map]
    rw [w64_id (n := ((digits a.natAbs).length : Int) + ((digits b.natAbs).length : Int)) (by omega) (by omega), w64_id (by omega) (by omega)]; omega
  rw [hw]
  refine EvR.yes (by simp; omega) ?_
  rw [Int.toNat_natCast, ints_rep]
  have := at98 (Dg_digits a.natAbs) (Dg_digits b.natAbs) la lb a.sign b.sign 0 (sign_mul_bd a b) (digits a.natAbs).length 0 (by omega) (List.replicate ((digits a.natAbs).length + (digits b.natAbs).length + 1) 0) (fun d hd => by rw [List.eq_of_mem_replicate hd]; omega) (by simp) (fun j _ => getD_rep0 _ _) (by rw [val_rep0]; simp)
  rw [val_dig, val_dig, W_mk (n := a * b) (by rw [Int.natAbs_mul]; simp) (fun _ => (Int.sign_mul a b).symm)] at this
  exact this
end Go.Proofs
/- Contracts of wide numbers: quotients rounded down. -/
namespace Go.Proofs
open Go Go.Sx Go.Vx
set_option maxRecDepth 100000
theorem ediv_of {n D q : Int} (hD : 0 < D) (h1 : D * q ≤ n) (h2 : n < D * (q + 1)) : n / D = q := by
  have e := Int.mul_ediv_add_emod n D
  have r0 := Int.emod_nonneg n (b := D) (by omega)
  have r1 := Int.emod_lt_of_pos n hD
  generalize n / D = x at *
  generalize n % D = y at *
  rcases Int.lt_trichotomy x q with h | h | h
  · have : D * (x + 1) ≤ D * q := Int.mul_le_mul_of_nonneg_left (by omega) (by omega)
    rw [Int.mul_add, Int.mul_one] at this
    omega
  · exact h
  · have : D * (q + 1) ≤ D * x := Int.mul_le_mul_of_nonneg_left (by omega) (by omega)
    omega
theorem W_pos {D : Int} (hD : 0 < D) : aggW (if val (digits D.natAbs) = 0 then 0 else 1) (digits (val (digits D.natAbs)).toNat) = W D := by
  rw [W_mk (n := D) (val_dig D) (fun _ => (Int.sign_eq_one_of_pos hD).symm)]
theorem cells133 (x : Int) : asR (cellOf (W x) 1) = ints (digits x.natAbs) := rfl
section
variable {D : Int} (hD : 0 < D) (dD : dl D ≤ 300000)
include hD dD
theorem at133_1 {V : Int} (hV : 0 ≤ V) (dV : dl V ≤ 300001) {i : Nat} {s z sb : Int} {A q : List Int} (hi : i < q.length) (hi2 : q.length ≤ 400000) {r : DV}
    (hk : ∀ d, 0 ≤ d → d ≤ 999999999 → D * d ≤ V → V < D * (d + 1) → AtV vt1 133 0 (tblL [(2, .ptr 0 0), (3, .ptr 1 0), (4, .ptr 2 0), (5, .own 3), (6, L (digits (V - D * d).toNat)), (7, .int ((i : Int) - 1))]) [.box [.int s, L A], .box [.int sb, L (digits D.natAbs)], .box [.int z, .nils], .row false 1 (ints (q.set i d))] r) :
    ∀ (n : Nat) (lo hi : Int), hi - lo ≤ n → 0 ≤ lo → lo ≤ hi → hi ≤ 999999999 → D * lo ≤ V → V < D * (hi + 1) →
    AtV vt1 133 1 (tblL [(2, .ptr 0 0), (3, .ptr 1 0), (4, .ptr 2 0), (5, .own 3), (6, L (digits V.toNat)), (7, .int (i : Int)), (8, .int lo), (9, .int hi)]) [.box [.int s, L A], .box [.int sb, L (digits D.natAbs)], .box [.int z, .nils], .row false 1 (ints q)] r := by
  have hVn : V.toNat = V.natAbs := by omega
  have cD := c129 1 (Dg_digits D.natAbs) (by have : (digits D.natAbs).length = dl D := rfl; omega)
  rw [W_pos hD] at cD
  intro n
  induction n with
  | zero =>
    intro lo hi h h0 hle h1 h2 h3
    have : lo = hi := by omega
    subst this
    refine AtV.by (fun ih => e133_1 ih _ _ _ _ _ _ _ _ _ _) (EvR.no (by simp) (EvR.yes (by rw [inR_ints]; simp; omega) (EvR.call cD (EvR.yes (isRes_W' _) (EvR.call (c95 (by omega) (by omega)) (EvR.yes (isRes_W' _) (EvR.call (c98 (a := D) (b := lo) (by omega) (by have := dl_small (n := lo) (by omega) (by omega); omega)) (EvR.yes (isRes_W' _) ?_))))))))
    have h0' : 0 ≤ D * lo := Int.mul_nonneg (by omega) h0
    have c := c136 (a := digits V.natAbs) (b := digits (D * lo).natAbs) (Dg_digits _) (Dg_digits _) (by have : (digits V.natAbs).length = dl V := rfl; omega) (by rw [val_dig, val_dig]; omega)
    rw [val_dig, val_dig, ← hVn] at c
    refine EvR.call c (EvR.yes (isRes_L _) ?_)
    have := hk lo h0 h1 h2 h3
    rw [asR_list, ints_set, Int.toNat_natCast, w64_id (by omega) (by omega)]
    have e : ((V.toNat : Int) - ((D * lo).natAbs : Int)).toNat = (V - D * lo).toNat := by omega
    rw [e]
    exact this
  | succ n ihn =>
    intro lo hi h h0 hle h1 h2 h3
    by_cases heq : lo = hi
    · exact ihn lo hi (by omega) h0 hle h1 h2 h3
    · have hm : w64 ((w64 (w64 (lo + hi) + 1)).tdiv 2) = (lo + hi + 1) / 2 := by
        rw [w64_id (n := lo + hi) (by omega) (by omega), w64_id (n := lo + hi + 1) (by omega) (by omega), Int.tdiv_eq_ediv_of_nonneg (by omega), w64_id (by omega) (by omega)]
      refine AtV.by (fun ih => e133_1 ih _ _ _ _ _ _ _ _ _ _) (EvR.yes (by simp; omega) ?_)
      rw [hm]
      generalize hmm : (lo + hi + 1) / 2 = m
      have b1 : lo < m := by omega
      have b2 : m ≤ hi := by omega
      refine EvR.call cD (EvR.yes (isRes_W' _) (EvR.call (c95 (n := m) (by omega) (by omega)) (EvR.yes (isRes_W' _) (EvR.call (c98 (a := D) (b := m) (by omega) (by have := dl_small (n := m) (by omega) (by omega); omega)) (EvR.yes (isRes_W' _) ?_)))))
      have dm : dl (D * m) ≤ 400000 := by have := dl_mul D m; have := dl_small (n := m) (by omega) (by omega); omega
      have c := c135 (a := digits (D * m).natAbs) (b := digits V.natAbs) (Dg_digits _) (Dg_digits _) (Top_digits _) (Top_digits _) (by have : (digits (D * m).natAbs).length = dl (D * m) := rfl; omega) (by have : (digits V.natAbs).length = dl V := rfl; omega)
      rw [val_dig, val_dig, ← hVn] at c
      refine EvR.call c (EvR.yes (isRes_int _) ?_)
      have hp : 0 ≤ D * m := Int.mul_nonneg (by omega) (by omega)
      rw [asI_int]
      rcases sgn3 (((D * m).natAbs : Int) - (V.toNat : Int)) with ⟨t, p⟩ | ⟨t, p⟩ | ⟨t, p⟩
      · refine EvR.no (by rw [t]; rfl) ?_
        rw [w64_id (by omega) (by omega)]
        exact ihn lo (m - 1) (by omega) h0 (by omega) (by omega) h2 (by rw [Int.sub_add_cancel]; omega)
      · exact EvR.yes (by rw [t]; rfl) (ihn m hi (by omega) (by omega) b2 h1 (by omega) h3)
      · exact EvR.yes (by rw [t]; rfl) (ihn m hi (by omega) (by omega) b2 h1 (by omega) h3)
theorem at133 {A : List Int} (hA : Dg A) (lA : A.length ≤ 300000) {s z sb : Int} (hs : s = 1 ∨ s = -1) : ∀ (k : Nat) (q : List Int) (Rm : Int), k ≤ A.length → q.length = A.length → Dg q → 0 ≤ Rm → Rm < D → val (A.drop k) = D * val (q.drop k) + Rm →
    AtV vt1 133 0 (tblL [(2, .ptr 0 0), (3, .ptr 1 0), (4, .ptr 2 0), (5, .own 3), (6, L (digits Rm.toNat)), (7, .int ((k : Int) - 1))]) [.box [.int s, L A], .box [.int sb, L (digits D.natAbs)], .box [.int z, .nils], .row false 1 (ints q)] (W ((s * val A) / D))
  | 0, q, Rm, hk, hl, hq, r0, r1, hv => by
    rw [List.drop_zero, List.drop_zero] at hv
    have hqn := val_nonneg hq
    have c := c129 s hq (by omega)
    have e : aggW (if val q = 0 then 0 else s) (digits (val q).toNat) = W (s * val q) := W_mk (n := s * val q) (by rcases hs with e | e <;> subst e <;> omega) (fun hne => by
      have : val q ≠ 0 := fun e => hne (by rw [e]; simp)
      rcases hs with e | e <;> subst e
      · rw [Int.sign_eq_one_of_pos (by omega)]
      · rw [Int.sign_eq_neg_one_of_neg (by omega)])
    rw [e] at c
    refine AtV.by (fun ih => e133_0 ih _ _ _ _ _ _ _ _) (EvR.no (by simp) (EvR.call c (EvR.yes (isRes_W' _) ?_)))
    have hlen0 : Rm = 0 → ((ints (digits Rm.toNat)).length : Int) = 0 := by intro e; subst e; simp [digits_zero]
    have hlen1 : Rm ≠ 0 → 0 < ((ints (digits Rm.toNat)).length : Int) := by intro e; rw [digits_pos (by omega)]; simp
    rcases hs with e | e
    · subst e
      refine EvR.no (by simp) (EvR.ret' ?_)
      rw [Int.one_mul, Int.one_mul, ediv_of hD (q := val q) (by omega) (by rw [Int.mul_add]; omega)]
      rfl
    · subst e
      refine EvR.yes (by simp) ?_
      by_cases hR : Rm = 0
      · refine EvR.no (by rw [hlen0 hR]; rfl) (EvR.ret' ?_)
        have : (-1 * val A) / D = -1 * val q := ediv_of hD (by rw [hv]; grind) (by rw [hv]; grind)
        rw [this]; rfl
      · refine EvR.yes (by simpa using hlen1 hR) (EvR.call (c95 (n := 1) (by omega) (by omega)) (EvR.yes (isRes_W' _) ?_))
        have hle : (-1 * val q).natAbs ≤ (val A).natAbs := by
          have h1 : 1 * val q ≤ D * val q := Int.mul_le_mul_of_nonneg_right (by omega) hqn
          omega
        have hd1 := dl_mono hle
        have hdl : dl (val A) ≤ 300000 := Nat.le_trans (dl_le (k := A.length) (by
          have h : (val A) < ((1000000000 ^ A.length : Nat) : Int) := by rw [Int.natCast_pow]; exact val_lt hA
          have h' := val_nonneg hA
          omega)) lA
        refine EvR.call (c155 (a := -1 * val q) (b := 1) (by omega) (by have := dl_small (n := 1) (by omega) (by omega); omega)) (EvR.yes (isRes_W' _) (EvR.ret' ?_))
        have : (-1 * val A) / D = -1 * val q - 1 := ediv_of hD (by rw [hv]; grind) (by rw [hv]; grind)
        rw [this]; rfl
  | k + 1, q, Rm, hk, hl, hq, r0, r1, hv => by
    have ga := getD_Dg hA k
    have e1 : (((k + 1 : Nat) : Int) - 1) = (k : Int) := by omega
    rw [e1]
    have hVe : val (A.getD k 0 :: digits Rm.toNat) = A.getD k 0 + 1000000000 * Rm := by
      rw [val, val_digits]; omega
    have hDg : Dg (A.getD k 0 :: digits Rm.toNat) := by rw [Dg_cons]; exact ⟨ga, Dg_digits _⟩
    have hRl : (digits Rm.toNat).length ≤ 300000 := by
      have h2 := lt_dl D
      exact Nat.le_trans (length_digits_le (n := Rm.toNat) (k := dl D) (by omega)) dD
    have c := c153 hDg (by simp; omega)
    rw [hVe] at c
    refine AtV.by (fun ih => e133_0 ih _ _ _ _ _ _ _ _) (EvR.yes (by simp) (EvR.yes (okR_ok (by omega) (by omega)) ?_))
    rw [asI_ints, Int.toNat_natCast]
    refine EvR.yes (lenOk_ints (by simp; omega)) (EvR.call c (EvR.yes (isRes_L _) ?_))
    have hV1 : A.getD k 0 + 1000000000 * Rm < D * 1000000000 := by omega
    have hdV : dl (A.getD k 0 + 1000000000 * Rm) ≤ 300001 := by
      have key : ∀ K : Nat, dl D ≤ K → dl (A.getD k 0 + 1000000000 * Rm) ≤ K + 1 := fun K hK => dl_le (k := K + 1) (by
        have h2 := lt_dl D
        have h3 := npow_mono hK
        rw [Nat.pow_succ]
        generalize (1000000000 : Nat) ^ K = p at *
        omega)
      exact key 300000 dD
    refine at133_1 hD dD (V := A.getD k 0 + 1000000000 * Rm) (by omega) hdV (by omega) (by omega) (fun d d0 d1 d2 d3 => ?_) 999999999 0 999999999 (by omega) (by omega) (by omega) (by omega) (by omega) (by omega)
    · have hdr := val_drop A k
      refine at133 hA lA hs k (q.set k d) _ (by omega) (by simpa using hl) (Dg_set hq k ⟨d0, by omega⟩) (by omega) (by rw [Int.mul_add] at d3; omega) ?_
      rw [hdr, hv, val_drop (q.set k d) k, List.getD_eq_getElem?_getD (l := q.set k d), List.getElem?_set_self (by omega), List.drop_set_of_lt (by omega)]
      simp only [Option.getD_some]
      generalize val (q.drop (k + 1)) = y
      grind
end
end Go.Proofs
