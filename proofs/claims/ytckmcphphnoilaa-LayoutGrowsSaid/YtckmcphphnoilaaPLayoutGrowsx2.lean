/- The Go functions that the law LayoutGrows goes through, as Lean functions, each with its contract: written by a program of this session. -/
import Derived.Test.YtckmcphphnoilaaPLayoutGrowsx0
import Derived.Test.YtckmcphphnoilaaPLayoutGrowsx1
namespace Go.Proofs.Ytckmcphphnoilaa.PLayoutGrows
open Go.RowKit Go.Proofs.YtckmcphphnoilaaW.PrintWords Go.Proofs.YtckmcphphnoilaaW.PrintLast Go.Proofs.YtckmcphphnoilaaW.PrintMore
attribute [local go_sem] max2_int min2_int max_two min_two max_three min_three max_four min_four   -- for this text's walks alone
set_option linter.unusedVariables false
set_option linter.unusedSimpArgs false

/-! ### hatstandlaw6_LayoutGrows: function 4 -/
mutual
def hatstandlaw6_LayoutGrows.j0 : Nat → Bool → Int → Int → Int → Int → Int → Int → Int → Int → Int → Int → Int → Int → Int → Int → Int → Int → Option (Bool)
 |0,_,_,_,_,_,_,_,_,_,_,_,_,_,_,_,_,_=>none
 |k + 1,x62,x121000,x121001,x121002,x121003,x122000,x122001,x122002,x122003,x123000,x123001,x123002,x123003,x124000,x124001,x124002,x124003=>if x62 = true then (some false) else (hatstandlaw6_LayoutGrows.l0 k 1 x121000 x121001 x121002 x121003 x122000 x122001 x122002 x122003 x123000 x123001 x123002 x123003 x124000 x124001 x124002 x124003)
def hatstandlaw6_LayoutGrows.l0 : Nat → Int → Int → Int → Int → Int → Int → Int → Int → Int → Int → Int → Int → Int → Int → Int → Int → Int → Option (Bool)
 |0,_,_,_,_,_,_,_,_,_,_,_,_,_,_,_,_,_=>none
 |k + 1,x12,x121000,x121001,x121002,x121003,x122000,x122001,x122002,x122003,x123000,x123001,x123002,x123003,x124000,x124001,x124002,x124003=>if x12 ≤ ((x121000) % 4294967296) then ((layout_Config_Next.f x122000 x122001 x122002 x122003 x12).bind fun t130=>((layout_Config_Next.f x121000 x121001 x121002 x121003 x12).bind fun t131=>(if t130 = t131 then ((layout_Config_Value.f x123000 x123001 x123002 x123003 x12).bind fun t132=>((layout_Config_Value.f x121000 x121001 x121002 x121003 x12).bind fun t133=>(if t132 = t133 then ((layout_Config_Next.f x124000 x124001 x124002 x124003 x12).bind fun t134=>((layout_Config_Next.f x121000 x121001 x121002 x121003 x12).bind fun t135=>(if t134 = t135 then (hatstandlaw6_LayoutGrows.l0 k ((x12 + 1) % 4294967296) x121000 x121001 x121002 x121003 x122000 x122001 x122002 x122003 x123000 x123001 x123002 x123003 x124000 x124001 x124002 x124003) else (some false)))) else (some false)))) else (some false)))) else (hatstandlaw6_LayoutGrows.l1 k 0 x121000 x121001 x121002 x121003 x122000 x122001 x122002 x122003 x123000 x123001 x123002 x123003 x124000 x124001 x124002 x124003)
def hatstandlaw6_LayoutGrows.l1 : Nat → Int → Int → Int → Int → Int → Int → Int → Int → Int → Int → Int → Int → Int → Int → Int → Int → Int → Option (Bool)
 |0,_,_,_,_,_,_,_,_,_,_,_,_,_,_,_,_,_=>none
 |k + 1,x13,x121000,x121001,x121002,x121003,x122000,x122001,x122002,x122003,x123000,x123001,x123002,x123003,x124000,x124001,x124002,x124003=>if x13 < x121001 then ((layout_Config_Slot.f x122000 x122001 x122002 x122003 x13).bind fun t136=>((layout_Config_Slot.f x121000 x121001 x121002 x121003 x13).bind fun t137=>(if t136 = (wrap64 (t137 + 2)) then ((layout_Config_Slot.f x123000 x123001 x123002 x123003 x13).bind fun t138=>((layout_Config_Slot.f x121000 x121001 x121002 x121003 x13).bind fun t139=>(if t138 = t139 then ((layout_Config_Slot.f x124000 x124001 x124002 x124003 x13).bind fun t140=>((layout_Config_Slot.f x121000 x121001 x121002 x121003 x13).bind fun t141=>(if t140 = t141 then (hatstandlaw6_LayoutGrows.l1 k (wrap64 (x13 + 1)) x121000 x121001 x121002 x121003 x122000 x122001 x122002 x122003 x123000 x123001 x123002 x123003 x124000 x124001 x124002 x124003) else (some false)))) else (some false)))) else (some false)))) else (hatstandlaw6_LayoutGrows.l2 k 0 x121000 x121001 x121002 x121003 x122000 x122001 x122002 x122003 x123000 x123001 x123002 x123003 x124000 x124001 x124002 x124003)
def hatstandlaw6_LayoutGrows.l2 : Nat → Int → Int → Int → Int → Int → Int → Int → Int → Int → Int → Int → Int → Int → Int → Int → Int → Int → Option (Bool)
 |0,_,_,_,_,_,_,_,_,_,_,_,_,_,_,_,_,_=>none
 |k + 1,x14,x121000,x121001,x121002,x121003,x122000,x122001,x122002,x122003,x123000,x123001,x123002,x123003,x124000,x124001,x124002,x124003=>if x14 < x121002 then ((layout_Config_Holder.f x122000 x122001 x122002 x122003 x14).bind fun t142=>((layout_Config_Holder.f x121000 x121001 x121002 x121003 x14).bind fun t143=>(if t142 = (wrap64 (t143 + 2)) then ((layout_Config_Holder.f x123000 x123001 x123002 x123003 x14).bind fun t144=>((layout_Config_Holder.f x121000 x121001 x121002 x121003 x14).bind fun t145=>(if t144 = (wrap64 (t145 + 1)) then ((layout_Config_Holder.f x124000 x124001 x124002 x124003 x14).bind fun t146=>((layout_Config_Holder.f x121000 x121001 x121002 x121003 x14).bind fun t147=>(if t146 = t147 then (hatstandlaw6_LayoutGrows.l2 k (wrap64 (x14 + 1)) x121000 x121001 x121002 x121003 x122000 x122001 x122002 x122003 x123000 x123001 x123002 x123003 x124000 x124001 x124002 x124003) else (some false)))) else (some false)))) else (some false)))) else (some true)
end
def hatstandlaw6_LayoutGrows.f (k : Nat) (a0 : Int) (a1 : Int) (a2 : Int) : Option (Bool):=(hatstandlaw6_shown.f).bind fun t116=>(if t116 = true then ((hatstandlaw6_pick.f a0 63).bind fun t117=>((hatstandlaw6_pick.f a1 16).bind fun t118=>((hatstandlaw6_pick.f a2 64).bind fun t119=>((layout_Config_Cells.f (wrap64 ((wrap64 (1 + t117)) + 1)) t118 t119 0).bind fun t124=>((layout_Config_Cells.f (wrap64 (1 + t117)) t118 t119 0).bind fun t125=>(if t124 = (wrap64 (t125 + 2)) then ((layout_Config_Cells.f (wrap64 (1 + t117)) (wrap64 (t118 + 1)) t119 0).bind fun t126=>((layout_Config_Cells.f (wrap64 (1 + t117)) t118 t119 0).bind fun t127=>(if t126 = (wrap64 (t127 + 1)) then ((layout_Config_Cells.f (wrap64 (1 + t117)) t118 (wrap64 (t119 + 1)) 0).bind fun t128=>((layout_Config_Cells.f (wrap64 (1 + t117)) t118 t119 0).bind fun t129=>(hatstandlaw6_LayoutGrows.j0 k (t128 != (wrap64 (t129 + 1))) (wrap64 (1 + t117)) t118 t119 0 (wrap64 ((wrap64 (1 + t117)) + 1)) t118 t119 0 (wrap64 (1 + t117)) (wrap64 (t118 + 1)) t119 0 (wrap64 (1 + t117)) t118 (wrap64 (t119 + 1)) 0))) else (hatstandlaw6_LayoutGrows.j0 k true (wrap64 (1 + t117)) t118 t119 0 (wrap64 ((wrap64 (1 + t117)) + 1)) t118 t119 0 (wrap64 (1 + t117)) (wrap64 (t118 + 1)) t119 0 (wrap64 (1 + t117)) t118 (wrap64 (t119 + 1)) 0)))) else (hatstandlaw6_LayoutGrows.j0 k true (wrap64 (1 + t117)) t118 t119 0 (wrap64 ((wrap64 (1 + t117)) + 1)) t118 t119 0 (wrap64 (1 + t117)) (wrap64 (t118 + 1)) t119 0 (wrap64 (1 + t117)) t118 (wrap64 (t119 + 1)) 0))))))) else (some false))
theorem hatstandlaw6_LayoutGrows.mono_l : ∀ k,(∀ y0 y1 y2 y3 y4 y5 y6 y7 y8 y9 y10 y11 y12 y13 y14 y15 y16,LeO (hatstandlaw6_LayoutGrows.j0 k y0 y1 y2 y3 y4 y5 y6 y7 y8 y9 y10 y11 y12 y13 y14 y15 y16) (hatstandlaw6_LayoutGrows.j0 (k + 1) y0 y1 y2 y3 y4 y5 y6 y7 y8 y9 y10 y11 y12 y13 y14 y15 y16))∧(∀ y0 y1 y2 y3 y4 y5 y6 y7 y8 y9 y10 y11 y12 y13 y14 y15 y16,LeO (hatstandlaw6_LayoutGrows.l0 k y0 y1 y2 y3 y4 y5 y6 y7 y8 y9 y10 y11 y12 y13 y14 y15 y16) (hatstandlaw6_LayoutGrows.l0 (k + 1) y0 y1 y2 y3 y4 y5 y6 y7 y8 y9 y10 y11 y12 y13 y14 y15 y16))∧(∀ y0 y1 y2 y3 y4 y5 y6 y7 y8 y9 y10 y11 y12 y13 y14 y15 y16,LeO (hatstandlaw6_LayoutGrows.l1 k y0 y1 y2 y3 y4 y5 y6 y7 y8 y9 y10 y11 y12 y13 y14 y15 y16) (hatstandlaw6_LayoutGrows.l1 (k + 1) y0 y1 y2 y3 y4 y5 y6 y7 y8 y9 y10 y11 y12 y13 y14 y15 y16))∧(∀ y0 y1 y2 y3 y4 y5 y6 y7 y8 y9 y10 y11 y12 y13 y14 y15 y16,LeO (hatstandlaw6_LayoutGrows.l2 k y0 y1 y2 y3 y4 y5 y6 y7 y8 y9 y10 y11 y12 y13 y14 y15 y16) (hatstandlaw6_LayoutGrows.l2 (k + 1) y0 y1 y2 y3 y4 y5 y6 y7 y8 y9 y10 y11 y12 y13 y14 y15 y16))
 |0=>⟨fun _ _ _ _ _ _ _ _ _ _ _ _ _ _ _ _ _ r h=>by simp [hatstandlaw6_LayoutGrows.j0] at h,fun _ _ _ _ _ _ _ _ _ _ _ _ _ _ _ _ _ r h=>by simp [hatstandlaw6_LayoutGrows.l0] at h,fun _ _ _ _ _ _ _ _ _ _ _ _ _ _ _ _ _ r h=>by simp [hatstandlaw6_LayoutGrows.l1] at h,fun _ _ _ _ _ _ _ _ _ _ _ _ _ _ _ _ _ r h=>by simp [hatstandlaw6_LayoutGrows.l2] at h⟩
 |k + 1=>by
  obtain ⟨ih0,ih1,ih2,ih3⟩:=hatstandlaw6_LayoutGrows.mono_l k
  refine ⟨?_,?_,?_,?_⟩
  ·intro y0 y1 y2 y3 y4 y5 y6 y7 y8 y9 y10 y11 y12 y13 y14 y15 y16
   unfold hatstandlaw6_LayoutGrows.j0
   repeat' first
  |(with_reducible exact ih0 _ _ _ _ _ _ _ _ _ _ _ _ _ _ _ _ _)
  |(with_reducible exact ih1 _ _ _ _ _ _ _ _ _ _ _ _ _ _ _ _ _)
  |(with_reducible exact ih2 _ _ _ _ _ _ _ _ _ _ _ _ _ _ _ _ _)
  |(with_reducible exact ih3 _ _ _ _ _ _ _ _ _ _ _ _ _ _ _ _ _)
  |(with_reducible exact LeO.refl _)
  |(with_reducible exact LeO.none _)
  |(with_reducible refine LeO.ite ?_ ?_)
  |(with_reducible refine LeO.bind ?_ (fun _=>?_))
  |exact ih0 _ _ _ _ _ _ _ _ _ _ _ _ _ _ _ _ _
  |exact ih1 _ _ _ _ _ _ _ _ _ _ _ _ _ _ _ _ _
  |exact ih2 _ _ _ _ _ _ _ _ _ _ _ _ _ _ _ _ _
  |exact ih3 _ _ _ _ _ _ _ _ _ _ _ _ _ _ _ _ _
  |exact LeO.none _
  |refine LeO.ite ?_ ?_
  |refine LeO.bind ?_ (fun _=>?_)
  ·intro y0 y1 y2 y3 y4 y5 y6 y7 y8 y9 y10 y11 y12 y13 y14 y15 y16
   unfold hatstandlaw6_LayoutGrows.l0
   repeat' first
  |(with_reducible exact ih0 _ _ _ _ _ _ _ _ _ _ _ _ _ _ _ _ _)
  |(with_reducible exact ih1 _ _ _ _ _ _ _ _ _ _ _ _ _ _ _ _ _)
  |(with_reducible exact ih2 _ _ _ _ _ _ _ _ _ _ _ _ _ _ _ _ _)
  |(with_reducible exact ih3 _ _ _ _ _ _ _ _ _ _ _ _ _ _ _ _ _)
  |(with_reducible exact LeO.refl _)
  |(with_reducible exact LeO.none _)
  |(with_reducible refine LeO.ite ?_ ?_)
  |(with_reducible refine LeO.bind ?_ (fun _=>?_))
  |exact ih0 _ _ _ _ _ _ _ _ _ _ _ _ _ _ _ _ _
  |exact ih1 _ _ _ _ _ _ _ _ _ _ _ _ _ _ _ _ _
  |exact ih2 _ _ _ _ _ _ _ _ _ _ _ _ _ _ _ _ _
  |exact ih3 _ _ _ _ _ _ _ _ _ _ _ _ _ _ _ _ _
  |exact LeO.none _
  |refine LeO.ite ?_ ?_
  |refine LeO.bind ?_ (fun _=>?_)
  ·intro y0 y1 y2 y3 y4 y5 y6 y7 y8 y9 y10 y11 y12 y13 y14 y15 y16
   unfold hatstandlaw6_LayoutGrows.l1
   repeat' first
  |(with_reducible exact ih0 _ _ _ _ _ _ _ _ _ _ _ _ _ _ _ _ _)
  |(with_reducible exact ih1 _ _ _ _ _ _ _ _ _ _ _ _ _ _ _ _ _)
  |(with_reducible exact ih2 _ _ _ _ _ _ _ _ _ _ _ _ _ _ _ _ _)
  |(with_reducible exact ih3 _ _ _ _ _ _ _ _ _ _ _ _ _ _ _ _ _)
  |(with_reducible exact LeO.refl _)
  |(with_reducible exact LeO.none _)
  |(with_reducible refine LeO.ite ?_ ?_)
  |(with_reducible refine LeO.bind ?_ (fun _=>?_))
  |exact ih0 _ _ _ _ _ _ _ _ _ _ _ _ _ _ _ _ _
  |exact ih1 _ _ _ _ _ _ _ _ _ _ _ _ _ _ _ _ _
  |exact ih2 _ _ _ _ _ _ _ _ _ _ _ _ _ _ _ _ _
  |exact ih3 _ _ _ _ _ _ _ _ _ _ _ _ _ _ _ _ _
  |exact LeO.none _
  |refine LeO.ite ?_ ?_
  |refine LeO.bind ?_ (fun _=>?_)
  ·intro y0 y1 y2 y3 y4 y5 y6 y7 y8 y9 y10 y11 y12 y13 y14 y15 y16
   unfold hatstandlaw6_LayoutGrows.l2
   repeat' first
  |(with_reducible exact ih0 _ _ _ _ _ _ _ _ _ _ _ _ _ _ _ _ _)
  |(with_reducible exact ih1 _ _ _ _ _ _ _ _ _ _ _ _ _ _ _ _ _)
  |(with_reducible exact ih2 _ _ _ _ _ _ _ _ _ _ _ _ _ _ _ _ _)
  |(with_reducible exact ih3 _ _ _ _ _ _ _ _ _ _ _ _ _ _ _ _ _)
  |(with_reducible exact LeO.refl _)
  |(with_reducible exact LeO.none _)
  |(with_reducible refine LeO.ite ?_ ?_)
  |(with_reducible refine LeO.bind ?_ (fun _=>?_))
  |exact ih0 _ _ _ _ _ _ _ _ _ _ _ _ _ _ _ _ _
  |exact ih1 _ _ _ _ _ _ _ _ _ _ _ _ _ _ _ _ _
  |exact ih2 _ _ _ _ _ _ _ _ _ _ _ _ _ _ _ _ _
  |exact ih3 _ _ _ _ _ _ _ _ _ _ _ _ _ _ _ _ _
  |exact LeO.none _
  |refine LeO.ite ?_ ?_
  |refine LeO.bind ?_ (fun _=>?_)
theorem hatstandlaw6_LayoutGrows.mono : ∀ a0 a1 a2 k,LeO (hatstandlaw6_LayoutGrows.f k a0 a1 a2) (hatstandlaw6_LayoutGrows.f (k + 1) a0 a1 a2):=by
 intro a0 a1 a2 k
 obtain ⟨ih0,ih1,ih2,ih3⟩:=hatstandlaw6_LayoutGrows.mono_l k
 unfold hatstandlaw6_LayoutGrows.f
 repeat' first
  |(with_reducible exact ih0 _ _ _ _ _ _ _ _ _ _ _ _ _ _ _ _ _)
  |(with_reducible exact ih1 _ _ _ _ _ _ _ _ _ _ _ _ _ _ _ _ _)
  |(with_reducible exact ih2 _ _ _ _ _ _ _ _ _ _ _ _ _ _ _ _ _)
  |(with_reducible exact ih3 _ _ _ _ _ _ _ _ _ _ _ _ _ _ _ _ _)
  |(with_reducible exact LeO.refl _)
  |(with_reducible exact LeO.none _)
  |(with_reducible refine LeO.ite ?_ ?_)
  |(with_reducible refine LeO.bind ?_ (fun _=>?_))
  |exact ih0 _ _ _ _ _ _ _ _ _ _ _ _ _ _ _ _ _
  |exact ih1 _ _ _ _ _ _ _ _ _ _ _ _ _ _ _ _ _
  |exact ih2 _ _ _ _ _ _ _ _ _ _ _ _ _ _ _ _ _
  |exact ih3 _ _ _ _ _ _ _ _ _ _ _ _ _ _ _ _ _
  |exact LeO.none _
  |refine LeO.ite ?_ ?_
  |refine LeO.bind ?_ (fun _=>?_)
def hatstandlaw6_LayoutGrows.T11 : Bool × List (List Nat × List Nat):=(true,[([],[]),([0],[0]),([],[]),([2,1],[2]),([3],[3]),([1,4],[1,4]),([5,3],[5]),([6],[6]),([7,6,6],[6,7]),([6],[6]),([9,8,6],[6,9]),([10,6],[6,10]),([8,11,6],[6,8,11]),([6,12],[6,12]),([13,10],[13]),([14],[14]),([15,14,14],[14,15]),([14],[14]),([17,16,14],[14,17]),([18,14],[14,18]),([16,19,14],[14,16,19]),([14,20],[14,20])])
def hatstandlaw6_LayoutGrows.B11 : List Nat:=[0,1,0,7,15,31,63,127,255,127,1023,2047,4095,8191,16383,32767,65535,32767,262143,524287,1048575,2097151]
theorem hatstandlaw6_LayoutGrows.tab11 : rtab .any (opsOf Try.f4 11) = hatstandlaw6_LayoutGrows.T11:=by kernel_rfl
theorem hatstandlaw6_LayoutGrows.bits11 : waitsOk hatstandlaw6_LayoutGrows.T11.2 hatstandlaw6_LayoutGrows.B11 = true:=by kernel_rfl
def hatstandlaw6_LayoutGrows.T16 : Bool × List (List Nat × List Nat):=(true,[([],[]),([],[]),([0,1],[0,1]),([],[]),([],[]),([3,4,2],[3,4]),([2,5],[2,5]),([6,5],[6]),([7],[7]),([7],[7]),([8,9,7,7],[7,8,9]),([7],[7]),([7],[7]),([11,12,10,7],[7,11,12]),([10,13,7],[7,10,13]),([7,14],[7,14]),([15,13],[15]),([16],[16]),([16],[16]),([17,18,16,16],[16,17,18]),([16],[16]),([16],[16]),([20,21,19,16],[16,20,21]),([19,22,16],[16,19,22]),([16,23],[16,23])])
def hatstandlaw6_LayoutGrows.B16 : List Nat:=[0,0,3,0,0,31,63,127,255,255,1023,255,255,8191,16383,32767,65535,131071,131071,524287,131071,131071,4194303,8388607,16777215]
theorem hatstandlaw6_LayoutGrows.tab16 : rtab .any (opsOf Try.f4 16) = hatstandlaw6_LayoutGrows.T16:=by kernel_rfl
theorem hatstandlaw6_LayoutGrows.bits16 : waitsOk hatstandlaw6_LayoutGrows.T16.2 hatstandlaw6_LayoutGrows.B16 = true:=by kernel_rfl
def hatstandlaw6_LayoutGrows.T21 : Bool × List (List Nat × List Nat):=(true,[([],[]),([],[]),([0,1],[0,1]),([],[]),([],[]),([3,4,2],[3,4]),([5],[5]),([2,6],[2,6]),([7,5],[7]),([8],[8]),([8],[8]),([9,10,8,8],[8,9,10]),([8],[8]),([8],[8]),([12,13,11,8],[8,12,13]),([11,14,8],[8,11,14]),([8,15],[8,15]),([16,14],[16]),([17],[17]),([17],[17]),([18,19,17,17],[17,18,19]),([17],[17]),([17],[17]),([21,22,20,17],[17,21,22]),([20,23,17],[17,20,23]),([17,24],[17,24])])
def hatstandlaw6_LayoutGrows.B21 : List Nat:=[0,0,3,0,0,31,63,127,255,511,511,2047,511,511,16383,32767,65535,131071,262143,262143,1048575,262143,262143,8388607,16777215,33554431]
theorem hatstandlaw6_LayoutGrows.tab21 : rtab .any (opsOf Try.f4 21) = hatstandlaw6_LayoutGrows.T21:=by kernel_rfl
theorem hatstandlaw6_LayoutGrows.bits21 : waitsOk hatstandlaw6_LayoutGrows.T21.2 hatstandlaw6_LayoutGrows.B21 = true:=by kernel_rfl
def hatstandlaw6_LayoutGrows.T26 : Bool × List (List Nat × List Nat):=(true,[([],[]),([],[]),([0,1],[0,1]),([],[]),([],[]),([3,4,2],[3,4]),([5],[5]),([2,6],[2,6]),([7,5],[7]),([8],[8]),([8],[8]),([9,10,8,8],[8,9,10]),([8],[8]),([8],[8]),([12,13,11,8],[8,12,13]),([14,8],[8,14]),([11,15,8],[8,11,15]),([8,16],[8,16]),([17,14],[17]),([18],[18]),([18],[18]),([19,20,18,18],[18,19,20]),([18],[18]),([18],[18]),([22,23,21,18],[18,22,23]),([21,24,18],[18,21,24]),([18,25],[18,25])])
def hatstandlaw6_LayoutGrows.B26 : List Nat:=[0,0,3,0,0,31,63,127,255,511,511,2047,511,511,16383,32767,65535,131071,262143,524287,524287,2097151,524287,524287,16777215,33554431,67108863]
theorem hatstandlaw6_LayoutGrows.tab26 : rtab .any (opsOf Try.f4 26) = hatstandlaw6_LayoutGrows.T26:=by kernel_rfl
theorem hatstandlaw6_LayoutGrows.bits26 : waitsOk hatstandlaw6_LayoutGrows.T26.2 hatstandlaw6_LayoutGrows.B26 = true:=by kernel_rfl
set_option maxHeartbeats 8000000 in
set_option maxRecDepth 100000 in
theorem hatstandlaw6_LayoutGrows.calls (k : Nat) (a0 : Int) (a1 : Int) (a2 : Int) (r : Bool) (w : World) (h : hatstandlaw6_LayoutGrows.f k a0 a1 a2 = some r) (hT_ : r = true) :
  Calls Try.prog 4 #[.int .i64 a0,.int .i64 a1,.int .i64 a2] w fun e w'=>e = .returned (.bool r)∧Below w.heap.size w w':=by
 have hu25:=Try.underlying25
 have HB:=Aside0.mk (Below.refl w.heap.size w)
 have H : ((hatstandlaw6_shown.f).bind fun t116=>(if t116 = true then ((hatstandlaw6_pick.f a0 63).bind fun t117=>((hatstandlaw6_pick.f a1 16).bind fun t118=>((hatstandlaw6_pick.f a2 64).bind fun t119=>((layout_Config_Cells.f (wrap64 ((wrap64 (1 + t117)) + 1)) t118 t119 0).bind fun t124=>((layout_Config_Cells.f (wrap64 (1 + t117)) t118 t119 0).bind fun t125=>(if t124 = (wrap64 (t125 + 2)) then ((layout_Config_Cells.f (wrap64 (1 + t117)) (wrap64 (t118 + 1)) t119 0).bind fun t126=>((layout_Config_Cells.f (wrap64 (1 + t117)) t118 t119 0).bind fun t127=>(if t126 = (wrap64 (t127 + 1)) then ((layout_Config_Cells.f (wrap64 (1 + t117)) t118 (wrap64 (t119 + 1)) 0).bind fun t128=>((layout_Config_Cells.f (wrap64 (1 + t117)) t118 t119 0).bind fun t129=>(hatstandlaw6_LayoutGrows.j0 k (t128 != (wrap64 (t129 + 1))) (wrap64 (1 + t117)) t118 t119 0 (wrap64 ((wrap64 (1 + t117)) + 1)) t118 t119 0 (wrap64 (1 + t117)) (wrap64 (t118 + 1)) t119 0 (wrap64 (1 + t117)) t118 (wrap64 (t119 + 1)) 0))) else (hatstandlaw6_LayoutGrows.j0 k true (wrap64 (1 + t117)) t118 t119 0 (wrap64 ((wrap64 (1 + t117)) + 1)) t118 t119 0 (wrap64 (1 + t117)) (wrap64 (t118 + 1)) t119 0 (wrap64 (1 + t117)) t118 (wrap64 (t119 + 1)) 0)))) else (hatstandlaw6_LayoutGrows.j0 k true (wrap64 (1 + t117)) t118 t119 0 (wrap64 ((wrap64 (1 + t117)) + 1)) t118 t119 0 (wrap64 (1 + t117)) (wrap64 (t118 + 1)) t119 0 (wrap64 (1 + t117)) t118 (wrap64 (t119 + 1)) 0))))))) else (some false))) = some r:=h
 clear h
 replace H:=Option.bind_eq_some_iff.mp H
 obtain ⟨t116,A40,H⟩:=H
 replace H : (if t116 = true then ((hatstandlaw6_pick.f a0 63).bind fun t117=>((hatstandlaw6_pick.f a1 16).bind fun t118=>((hatstandlaw6_pick.f a2 64).bind fun t119=>((layout_Config_Cells.f (wrap64 ((wrap64 (1 + t117)) + 1)) t118 t119 0).bind fun t124=>((layout_Config_Cells.f (wrap64 (1 + t117)) t118 t119 0).bind fun t125=>(if t124 = (wrap64 (t125 + 2)) then ((layout_Config_Cells.f (wrap64 (1 + t117)) (wrap64 (t118 + 1)) t119 0).bind fun t126=>((layout_Config_Cells.f (wrap64 (1 + t117)) t118 t119 0).bind fun t127=>(if t126 = (wrap64 (t127 + 1)) then ((layout_Config_Cells.f (wrap64 (1 + t117)) t118 (wrap64 (t119 + 1)) 0).bind fun t128=>((layout_Config_Cells.f (wrap64 (1 + t117)) t118 t119 0).bind fun t129=>(hatstandlaw6_LayoutGrows.j0 k (t128 != (wrap64 (t129 + 1))) (wrap64 (1 + t117)) t118 t119 0 (wrap64 ((wrap64 (1 + t117)) + 1)) t118 t119 0 (wrap64 (1 + t117)) (wrap64 (t118 + 1)) t119 0 (wrap64 (1 + t117)) t118 (wrap64 (t119 + 1)) 0))) else (hatstandlaw6_LayoutGrows.j0 k true (wrap64 (1 + t117)) t118 t119 0 (wrap64 ((wrap64 (1 + t117)) + 1)) t118 t119 0 (wrap64 (1 + t117)) (wrap64 (t118 + 1)) t119 0 (wrap64 (1 + t117)) t118 (wrap64 (t119 + 1)) 0)))) else (hatstandlaw6_LayoutGrows.j0 k true (wrap64 (1 + t117)) t118 t119 0 (wrap64 ((wrap64 (1 + t117)) + 1)) t118 t119 0 (wrap64 (1 + t117)) (wrap64 (t118 + 1)) t119 0 (wrap64 (1 + t117)) t118 (wrap64 (t119 + 1)) 0))))))) else (some false)) = some r:=H
 have A4:=Aside0.mk A40
 clear A40
 by_cases c5 : t116 = true
 ·subst c5
  have H1 : ((hatstandlaw6_pick.f a0 63).bind fun t117=>((hatstandlaw6_pick.f a1 16).bind fun t118=>((hatstandlaw6_pick.f a2 64).bind fun t119=>((layout_Config_Cells.f (wrap64 ((wrap64 (1 + t117)) + 1)) t118 t119 0).bind fun t124=>((layout_Config_Cells.f (wrap64 (1 + t117)) t118 t119 0).bind fun t125=>(if t124 = (wrap64 (t125 + 2)) then ((layout_Config_Cells.f (wrap64 (1 + t117)) (wrap64 (t118 + 1)) t119 0).bind fun t126=>((layout_Config_Cells.f (wrap64 (1 + t117)) t118 t119 0).bind fun t127=>(if t126 = (wrap64 (t127 + 1)) then ((layout_Config_Cells.f (wrap64 (1 + t117)) t118 (wrap64 (t119 + 1)) 0).bind fun t128=>((layout_Config_Cells.f (wrap64 (1 + t117)) t118 t119 0).bind fun t129=>(hatstandlaw6_LayoutGrows.j0 k (t128 != (wrap64 (t129 + 1))) (wrap64 (1 + t117)) t118 t119 0 (wrap64 ((wrap64 (1 + t117)) + 1)) t118 t119 0 (wrap64 (1 + t117)) (wrap64 (t118 + 1)) t119 0 (wrap64 (1 + t117)) t118 (wrap64 (t119 + 1)) 0))) else (hatstandlaw6_LayoutGrows.j0 k true (wrap64 (1 + t117)) t118 t119 0 (wrap64 ((wrap64 (1 + t117)) + 1)) t118 t119 0 (wrap64 (1 + t117)) (wrap64 (t118 + 1)) t119 0 (wrap64 (1 + t117)) t118 (wrap64 (t119 + 1)) 0)))) else (hatstandlaw6_LayoutGrows.j0 k true (wrap64 (1 + t117)) t118 t119 0 (wrap64 ((wrap64 (1 + t117)) + 1)) t118 t119 0 (wrap64 (1 + t117)) (wrap64 (t118 + 1)) t119 0 (wrap64 (1 + t117)) t118 (wrap64 (t119 + 1)) 0))))))) = some r:=by rw [if_pos rfl] at H;exact H
  clear H
  have H:=H1
  clear H1
  replace H:=Option.bind_eq_some_iff.mp H
  obtain ⟨t117,A60,H⟩:=H
  replace H : ((hatstandlaw6_pick.f a1 16).bind fun t118=>((hatstandlaw6_pick.f a2 64).bind fun t119=>((layout_Config_Cells.f (wrap64 ((wrap64 (1 + t117)) + 1)) t118 t119 0).bind fun t124=>((layout_Config_Cells.f (wrap64 (1 + t117)) t118 t119 0).bind fun t125=>(if t124 = (wrap64 (t125 + 2)) then ((layout_Config_Cells.f (wrap64 (1 + t117)) (wrap64 (t118 + 1)) t119 0).bind fun t126=>((layout_Config_Cells.f (wrap64 (1 + t117)) t118 t119 0).bind fun t127=>(if t126 = (wrap64 (t127 + 1)) then ((layout_Config_Cells.f (wrap64 (1 + t117)) t118 (wrap64 (t119 + 1)) 0).bind fun t128=>((layout_Config_Cells.f (wrap64 (1 + t117)) t118 t119 0).bind fun t129=>(hatstandlaw6_LayoutGrows.j0 k (t128 != (wrap64 (t129 + 1))) (wrap64 (1 + t117)) t118 t119 0 (wrap64 ((wrap64 (1 + t117)) + 1)) t118 t119 0 (wrap64 (1 + t117)) (wrap64 (t118 + 1)) t119 0 (wrap64 (1 + t117)) t118 (wrap64 (t119 + 1)) 0))) else (hatstandlaw6_LayoutGrows.j0 k true (wrap64 (1 + t117)) t118 t119 0 (wrap64 ((wrap64 (1 + t117)) + 1)) t118 t119 0 (wrap64 (1 + t117)) (wrap64 (t118 + 1)) t119 0 (wrap64 (1 + t117)) t118 (wrap64 (t119 + 1)) 0)))) else (hatstandlaw6_LayoutGrows.j0 k true (wrap64 (1 + t117)) t118 t119 0 (wrap64 ((wrap64 (1 + t117)) + 1)) t118 t119 0 (wrap64 (1 + t117)) (wrap64 (t118 + 1)) t119 0 (wrap64 (1 + t117)) t118 (wrap64 (t119 + 1)) 0)))))) = some r:=H
  have A6:=Aside0.mk A60
  clear A60
  replace H:=Option.bind_eq_some_iff.mp H
  obtain ⟨t118,A70,H⟩:=H
  replace H : ((hatstandlaw6_pick.f a2 64).bind fun t119=>((layout_Config_Cells.f (wrap64 ((wrap64 (1 + t117)) + 1)) t118 t119 0).bind fun t124=>((layout_Config_Cells.f (wrap64 (1 + t117)) t118 t119 0).bind fun t125=>(if t124 = (wrap64 (t125 + 2)) then ((layout_Config_Cells.f (wrap64 (1 + t117)) (wrap64 (t118 + 1)) t119 0).bind fun t126=>((layout_Config_Cells.f (wrap64 (1 + t117)) t118 t119 0).bind fun t127=>(if t126 = (wrap64 (t127 + 1)) then ((layout_Config_Cells.f (wrap64 (1 + t117)) t118 (wrap64 (t119 + 1)) 0).bind fun t128=>((layout_Config_Cells.f (wrap64 (1 + t117)) t118 t119 0).bind fun t129=>(hatstandlaw6_LayoutGrows.j0 k (t128 != (wrap64 (t129 + 1))) (wrap64 (1 + t117)) t118 t119 0 (wrap64 ((wrap64 (1 + t117)) + 1)) t118 t119 0 (wrap64 (1 + t117)) (wrap64 (t118 + 1)) t119 0 (wrap64 (1 + t117)) t118 (wrap64 (t119 + 1)) 0))) else (hatstandlaw6_LayoutGrows.j0 k true (wrap64 (1 + t117)) t118 t119 0 (wrap64 ((wrap64 (1 + t117)) + 1)) t118 t119 0 (wrap64 (1 + t117)) (wrap64 (t118 + 1)) t119 0 (wrap64 (1 + t117)) t118 (wrap64 (t119 + 1)) 0)))) else (hatstandlaw6_LayoutGrows.j0 k true (wrap64 (1 + t117)) t118 t119 0 (wrap64 ((wrap64 (1 + t117)) + 1)) t118 t119 0 (wrap64 (1 + t117)) (wrap64 (t118 + 1)) t119 0 (wrap64 (1 + t117)) t118 (wrap64 (t119 + 1)) 0))))) = some r:=H
  have A7:=Aside0.mk A70
  clear A70
  replace H:=Option.bind_eq_some_iff.mp H
  obtain ⟨t119,A80,H⟩:=H
  replace H : ((layout_Config_Cells.f (wrap64 ((wrap64 (1 + t117)) + 1)) t118 t119 0).bind fun t124=>((layout_Config_Cells.f (wrap64 (1 + t117)) t118 t119 0).bind fun t125=>(if t124 = (wrap64 (t125 + 2)) then ((layout_Config_Cells.f (wrap64 (1 + t117)) (wrap64 (t118 + 1)) t119 0).bind fun t126=>((layout_Config_Cells.f (wrap64 (1 + t117)) t118 t119 0).bind fun t127=>(if t126 = (wrap64 (t127 + 1)) then ((layout_Config_Cells.f (wrap64 (1 + t117)) t118 (wrap64 (t119 + 1)) 0).bind fun t128=>((layout_Config_Cells.f (wrap64 (1 + t117)) t118 t119 0).bind fun t129=>(hatstandlaw6_LayoutGrows.j0 k (t128 != (wrap64 (t129 + 1))) (wrap64 (1 + t117)) t118 t119 0 (wrap64 ((wrap64 (1 + t117)) + 1)) t118 t119 0 (wrap64 (1 + t117)) (wrap64 (t118 + 1)) t119 0 (wrap64 (1 + t117)) t118 (wrap64 (t119 + 1)) 0))) else (hatstandlaw6_LayoutGrows.j0 k true (wrap64 (1 + t117)) t118 t119 0 (wrap64 ((wrap64 (1 + t117)) + 1)) t118 t119 0 (wrap64 (1 + t117)) (wrap64 (t118 + 1)) t119 0 (wrap64 (1 + t117)) t118 (wrap64 (t119 + 1)) 0)))) else (hatstandlaw6_LayoutGrows.j0 k true (wrap64 (1 + t117)) t118 t119 0 (wrap64 ((wrap64 (1 + t117)) + 1)) t118 t119 0 (wrap64 (1 + t117)) (wrap64 (t118 + 1)) t119 0 (wrap64 (1 + t117)) t118 (wrap64 (t119 + 1)) 0)))) = some r:=H
  have A8:=Aside0.mk A80
  clear A80
  have HC9:=Aside0.mk H
  clear H
  go_enter Try.func4,Try.ntmps4
  go_upto_region 11 with (first|((with_reducible refine gate_callee (f:=12) rfl ?_);refine goesL_ (some 15) rfl rfl Try.func12 (by kernel_rfl) rfl #[] rfl (by (try simp only [List.map_toArray,List.map_cons,List.map_nil]);first|done|rfl|(simp only [List.length_drop,List.length_take];rfl)) ?_;(with_reducible refine (hatstandlaw6_shown.calls  true _ A4.out).mono ?_);rintro e w10 ⟨rfl,hb⟩;refine ⟨_,rfl,?_⟩;have n0_:=Aside0.mk (below_step (by repeat (first|(with_reducible first|exact HB.out|apply below_alloc|apply pw_below_drewN|apply below_drew1)|exact HB.out)) hb);clear HB;have HB:=n0_;clear n0_;(try clear hb);(try clear hb2);(try clear hk);(try clear hi))|((with_reducible refine gate_callee (f:=19) rfl ?_);refine goesL_ (some 19) rfl rfl Try.func19 (by kernel_rfl) rfl #[.int .i64 a0,.int .i64 63] rfl (by (try simp only [List.map_toArray,List.map_cons,List.map_nil]);first|done|rfl|(simp only [List.length_drop,List.length_take];rfl)) ?_;(with_reducible refine (hatstandlaw6_pick.calls a0 63 t117 _ A6.out).mono ?_);rintro e w' ⟨rfl,⟨nd,rfl⟩⟩;refine ⟨_,rfl,?_⟩;(try (rw [drewN_self w10];generalize hq_ : World.drewN w10 _ = w10;have n0_ : Aside0 (Below w.heap.size w w10):=⟨by rw [← hq_];exact (by repeat (first|(with_reducible first|exact HB.out|apply below_alloc|apply pw_below_drewN|apply below_drew1)|exact HB.out))⟩;clear HB hq_;have HB:=n0_;clear n0_)))|((with_reducible refine gate_callee (f:=19) rfl ?_);refine goesL_ (some 22) rfl rfl Try.func19 (by kernel_rfl) rfl #[.int .i64 a1,.int .i64 16] rfl (by (try simp only [List.map_toArray,List.map_cons,List.map_nil]);first|done|rfl|(simp only [List.length_drop,List.length_take];rfl)) ?_;(with_reducible refine (hatstandlaw6_pick.calls a1 16 t118 _ A7.out).mono ?_);rintro e w' ⟨rfl,⟨nd,rfl⟩⟩;refine ⟨_,rfl,?_⟩;(try (rw [drewN_self w10];generalize hq_ : World.drewN w10 _ = w10;have n0_ : Aside0 (Below w.heap.size w w10):=⟨by rw [← hq_];exact (by repeat (first|(with_reducible first|exact HB.out|apply below_alloc|apply pw_below_drewN|apply below_drew1)|exact HB.out))⟩;clear HB hq_;have HB:=n0_;clear n0_)))|((with_reducible refine gate_callee (f:=19) rfl ?_);refine goesL_ (some 24) rfl rfl Try.func19 (by kernel_rfl) rfl #[.int .i64 a2,.int .i64 64] rfl (by (try simp only [List.map_toArray,List.map_cons,List.map_nil]);first|done|rfl|(simp only [List.length_drop,List.length_take];rfl)) ?_;(with_reducible refine (hatstandlaw6_pick.calls a2 64 t119 _ A8.out).mono ?_);rintro e w' ⟨rfl,⟨nd,rfl⟩⟩;refine ⟨_,rfl,?_⟩;(try (rw [drewN_self w10];generalize hq_ : World.drewN w10 _ = w10;have n0_ : Aside0 (Below w.heap.size w w10):=⟨by rw [← hq_];exact (by repeat (first|(with_reducible first|exact HB.out|apply below_alloc|apply pw_below_drewN|apply below_drew1)|exact HB.out))⟩;clear HB hq_;have HB:=n0_;clear n0_)))|((with_reducible refine gate_dst (N:=8) rfl ?_);refine box_event ?hg (N:=8) ?hd (cs:=#[.int .i64 0,.int .i64 0,.int .i64 0,.int .u32 0]) (t:=25) ?hr ?_;(case hd=>rfl);(case hg=>rfl);(case hr=>first|(go_simp;done)|(go_simp;rfl));intro gb120 hg w11 hbox hb;have n0_:=Aside0.mk (below_step (by repeat (first|(with_reducible first|exact HB.out|apply below_alloc|apply pw_below_drewN|apply below_drew1)|exact HB.out)) hb);have n1_:=Aside0.mk (hbox);have n2_:=Aside0.mk ((by rw [hg];exact (below_size (by repeat (first|(with_reducible first|exact HB.out|apply below_alloc|apply pw_below_drewN|apply below_drew1)|exact HB.out))) : w.heap.size ≤ gb120));have n3_:=Aside0.mk ((by rw [hg];exact (below_size (by repeat (first|(with_reducible first|exact HB.out|apply below_alloc|apply pw_below_drewN|apply below_drew1)|exact HB.out))) : w.heap.size ≤ gb120));clear HB;have HB:=n0_;have BK120:=n1_;have GW120:=n2_;have GE120:=n3_;clear n0_ n1_ n2_ n3_;clear hb hbox hg;have hcz12_0 : w11.cell? ⟨gb120,0,none⟩ = some (.int .i64 0):=(blk_cell BK120.out 0).trans rfl;have hcz12_1 : w11.cell? ⟨gb120,1,none⟩ = some (.int .i64 0):=(blk_cell BK120.out 1).trans rfl;have hcz12_2 : w11.cell? ⟨gb120,2,none⟩ = some (.int .i64 0):=(blk_cell BK120.out 2).trans rfl;have hcz12_3 : w11.cell? ⟨gb120,3,none⟩ = some (.int .u32 0):=(blk_cell BK120.out 3).trans rfl;have hfz12_0:=blk_frozen BK120.out 0;have hfz12_1:=blk_frozen BK120.out 1;have hfz12_2:=blk_frozen BK120.out 2;have hfz12_3:=blk_frozen BK120.out 3)|((with_reducible refine gate_dst (N:=9) rfl ?_);refine box_event ?hg (N:=9) ?hd (cs:=#[.int .i64 0,.int .i64 0,.int .i64 0,.int .u32 0]) (t:=25) ?hr ?_;(case hd=>rfl);(case hg=>rfl);(case hr=>first|(go_simp;done)|(go_simp;rfl));intro gb121 hg w13 hbox hb;have n0_:=Aside0.mk (blk_below (g:=gb120) (o:=.cells #[.int .i64 (wrap64 (1 + t117)),.int .i64 t118,.int .i64 t119,.int .u32 0] 25 (0,0)) (by (with_reducible repeat (first|refine blk_drewN ?_ _|refine blk_drew ?_|refine blk_alloc ?_ _));refine blk_put (cs:=#[.int .i64 (wrap64 (1 + t117)),.int .i64 t118,.int .i64 t119,.int .u32 0]) ?_ 3 _ rfl;(with_reducible repeat (first|refine blk_drewN ?_ _|refine blk_drew ?_|refine blk_alloc ?_ _));refine blk_put (cs:=#[.int .i64 (wrap64 (1 + t117)),.int .i64 t118,.int .i64 0,.int .u32 0]) ?_ 2 _ rfl;(with_reducible repeat (first|refine blk_drewN ?_ _|refine blk_drew ?_|refine blk_alloc ?_ _));refine blk_put (cs:=#[.int .i64 (wrap64 (1 + t117)),.int .i64 0,.int .i64 0,.int .u32 0]) ?_ 1 _ rfl;(with_reducible repeat (first|refine blk_drewN ?_ _|refine blk_drew ?_|refine blk_alloc ?_ _));refine blk_put (cs:=#[.int .i64 0,.int .i64 0,.int .i64 0,.int .u32 0]) ?_ 0 _ rfl;(with_reducible repeat (first|refine blk_drewN ?_ _|refine blk_drew ?_|refine blk_alloc ?_ _));exact BK120.out) hb);have n1_:=Aside0.mk (below_step (by repeat (first|(with_reducible first|exact HB.out|apply below_alloc|apply pw_below_drewN|apply below_drew1|refine below_set ?_ GE120.out)|exact HB.out)) hb);have n2_:=Aside0.mk (hbox);have n3_:=Aside0.mk ((by rw [hg];exact (below_size (by repeat (first|(with_reducible first|exact HB.out|apply below_alloc|apply pw_below_drewN|apply below_drew1|refine below_set ?_ GE120.out)|exact HB.out))) : w.heap.size ≤ gb121));have n4_:=Aside0.mk ((by rw [hg];exact (below_size (by repeat (first|(with_reducible first|exact HB.out|apply below_alloc|apply pw_below_drewN|apply below_drew1|refine below_set ?_ GE120.out)|exact HB.out))) : w.heap.size ≤ gb121));have n5_:=Aside0.mk ((by rw [hg];exact Nat.ne_of_lt (blk_lt (g:=gb120) (o:=.cells #[.int .i64 (wrap64 (1 + t117)),.int .i64 t118,.int .i64 t119,.int .u32 0] 25 (0,0)) (by (with_reducible repeat (first|refine blk_drewN ?_ _|refine blk_drew ?_|refine blk_alloc ?_ _));refine blk_put (cs:=#[.int .i64 (wrap64 (1 + t117)),.int .i64 t118,.int .i64 t119,.int .u32 0]) ?_ 3 _ rfl;(with_reducible repeat (first|refine blk_drewN ?_ _|refine blk_drew ?_|refine blk_alloc ?_ _));refine blk_put (cs:=#[.int .i64 (wrap64 (1 + t117)),.int .i64 t118,.int .i64 0,.int .u32 0]) ?_ 2 _ rfl;(with_reducible repeat (first|refine blk_drewN ?_ _|refine blk_drew ?_|refine blk_alloc ?_ _));refine blk_put (cs:=#[.int .i64 (wrap64 (1 + t117)),.int .i64 0,.int .i64 0,.int .u32 0]) ?_ 1 _ rfl;(with_reducible repeat (first|refine blk_drewN ?_ _|refine blk_drew ?_|refine blk_alloc ?_ _));refine blk_put (cs:=#[.int .i64 0,.int .i64 0,.int .i64 0,.int .u32 0]) ?_ 0 _ rfl;(with_reducible repeat (first|refine blk_drewN ?_ _|refine blk_drew ?_|refine blk_alloc ?_ _));exact BK120.out)) : gb120 ≠ gb121));have n6_:=Aside0.mk ((by rw [hg];exact Nat.ne_of_gt (blk_lt (g:=gb120) (o:=.cells #[.int .i64 (wrap64 (1 + t117)),.int .i64 t118,.int .i64 t119,.int .u32 0] 25 (0,0)) (by (with_reducible repeat (first|refine blk_drewN ?_ _|refine blk_drew ?_|refine blk_alloc ?_ _));refine blk_put (cs:=#[.int .i64 (wrap64 (1 + t117)),.int .i64 t118,.int .i64 t119,.int .u32 0]) ?_ 3 _ rfl;(with_reducible repeat (first|refine blk_drewN ?_ _|refine blk_drew ?_|refine blk_alloc ?_ _));refine blk_put (cs:=#[.int .i64 (wrap64 (1 + t117)),.int .i64 t118,.int .i64 0,.int .u32 0]) ?_ 2 _ rfl;(with_reducible repeat (first|refine blk_drewN ?_ _|refine blk_drew ?_|refine blk_alloc ?_ _));refine blk_put (cs:=#[.int .i64 (wrap64 (1 + t117)),.int .i64 0,.int .i64 0,.int .u32 0]) ?_ 1 _ rfl;(with_reducible repeat (first|refine blk_drewN ?_ _|refine blk_drew ?_|refine blk_alloc ?_ _));refine blk_put (cs:=#[.int .i64 0,.int .i64 0,.int .i64 0,.int .u32 0]) ?_ 0 _ rfl;(with_reducible repeat (first|refine blk_drewN ?_ _|refine blk_drew ?_|refine blk_alloc ?_ _));exact BK120.out)) : gb121 ≠ gb120));clear BK120;clear HB;have BK120:=n0_;have HB:=n1_;have BK121:=n2_;have GW121:=n3_;have GE121:=n4_;have NB120_121:=n5_;have NB121_120:=n6_;clear n0_ n1_ n2_ n3_ n4_ n5_ n6_;clear hb hbox hg;have hnb14:=NB121_120.out;have hnc14:=NB120_121.out;have hcz15_0 : w13.cell? ⟨gb121,0,none⟩ = some (.int .i64 0):=(blk_cell BK121.out 0).trans rfl;have hcz15_1 : w13.cell? ⟨gb121,1,none⟩ = some (.int .i64 0):=(blk_cell BK121.out 1).trans rfl;have hcz15_2 : w13.cell? ⟨gb121,2,none⟩ = some (.int .i64 0):=(blk_cell BK121.out 2).trans rfl;have hcz15_3 : w13.cell? ⟨gb121,3,none⟩ = some (.int .u32 0):=(blk_cell BK121.out 3).trans rfl;have hfz15_0:=blk_frozen BK121.out 0;have hfz15_1:=blk_frozen BK121.out 1;have hfz15_2:=blk_frozen BK121.out 2;have hfz15_3:=blk_frozen BK121.out 3;have hcz16_0 : w13.cell? ⟨gb120,0,none⟩ = some (.int .i64 (wrap64 (1 + t117))):=(blk_cell BK120.out 0).trans rfl;have hcz16_1 : w13.cell? ⟨gb120,1,none⟩ = some (.int .i64 t118):=(blk_cell BK120.out 1).trans rfl;have hcz16_2 : w13.cell? ⟨gb120,2,none⟩ = some (.int .i64 t119):=(blk_cell BK120.out 2).trans rfl;have hcz16_3 : w13.cell? ⟨gb120,3,none⟩ = some (.int .u32 0):=(blk_cell BK120.out 3).trans rfl;have hfz16_0:=blk_frozen BK120.out 0;have hfz16_1:=blk_frozen BK120.out 1;have hfz16_2:=blk_frozen BK120.out 2;have hfz16_3:=blk_frozen BK120.out 3)|((with_reducible refine gate_dst (N:=10) rfl ?_);refine box_event ?hg (N:=10) ?hd (cs:=#[.int .i64 0,.int .i64 0,.int .i64 0,.int .u32 0]) (t:=25) ?hr ?_;(case hd=>rfl);(case hg=>rfl);(case hr=>first|(go_simp;done)|(go_simp;rfl));intro gb122 hg w17 hbox hb;have n0_:=Aside0.mk (blk_below (g:=gb120) (o:=.cells #[.int .i64 (wrap64 (1 + t117)),.int .i64 t118,.int .i64 t119,.int .u32 0] 25 (0,0)) (by (with_reducible repeat (first|refine blk_drewN ?_ _|refine blk_drew ?_|refine blk_alloc ?_ _));refine blk_far ?_ NB120_121.out _;(with_reducible repeat (first|refine blk_drewN ?_ _|refine blk_drew ?_|refine blk_alloc ?_ _));refine blk_far ?_ NB120_121.out _;(with_reducible repeat (first|refine blk_drewN ?_ _|refine blk_drew ?_|refine blk_alloc ?_ _));refine blk_far ?_ NB120_121.out _;(with_reducible repeat (first|refine blk_drewN ?_ _|refine blk_drew ?_|refine blk_alloc ?_ _));refine blk_far ?_ NB120_121.out _;(with_reducible repeat (first|refine blk_drewN ?_ _|refine blk_drew ?_|refine blk_alloc ?_ _));refine blk_far ?_ NB120_121.out _;(with_reducible repeat (first|refine blk_drewN ?_ _|refine blk_drew ?_|refine blk_alloc ?_ _));exact BK120.out) hb);have n1_:=Aside0.mk (blk_below (g:=gb121) (o:=.cells #[.int .i64 (wrap64 ((wrap64 (1 + t117)) + 1)),.int .i64 t118,.int .i64 t119,.int .u32 0] 25 (0,0)) (by (with_reducible repeat (first|refine blk_drewN ?_ _|refine blk_drew ?_|refine blk_alloc ?_ _));refine blk_put (cs:=#[.int .i64 (wrap64 (1 + t117)),.int .i64 t118,.int .i64 t119,.int .u32 0]) ?_ 0 _ rfl;(with_reducible repeat (first|refine blk_drewN ?_ _|refine blk_drew ?_|refine blk_alloc ?_ _));refine blk_put (cs:=#[.int .i64 (wrap64 (1 + t117)),.int .i64 t118,.int .i64 t119,.int .u32 0]) ?_ 3 _ rfl;(with_reducible repeat (first|refine blk_drewN ?_ _|refine blk_drew ?_|refine blk_alloc ?_ _));refine blk_put (cs:=#[.int .i64 (wrap64 (1 + t117)),.int .i64 t118,.int .i64 0,.int .u32 0]) ?_ 2 _ rfl;(with_reducible repeat (first|refine blk_drewN ?_ _|refine blk_drew ?_|refine blk_alloc ?_ _));refine blk_put (cs:=#[.int .i64 (wrap64 (1 + t117)),.int .i64 0,.int .i64 0,.int .u32 0]) ?_ 1 _ rfl;(with_reducible repeat (first|refine blk_drewN ?_ _|refine blk_drew ?_|refine blk_alloc ?_ _));refine blk_put (cs:=#[.int .i64 0,.int .i64 0,.int .i64 0,.int .u32 0]) ?_ 0 _ rfl;(with_reducible repeat (first|refine blk_drewN ?_ _|refine blk_drew ?_|refine blk_alloc ?_ _));exact BK121.out) hb);have n2_:=Aside0.mk (below_step (by repeat (first|(with_reducible first|exact HB.out|apply below_alloc|apply pw_below_drewN|apply below_drew1|refine below_set ?_ GE120.out|refine below_set ?_ GE121.out)|exact HB.out)) hb);have n3_:=Aside0.mk (hbox);have n4_:=Aside0.mk ((by rw [hg];exact (below_size (by repeat (first|(with_reducible first|exact HB.out|apply below_alloc|apply pw_below_drewN|apply below_drew1|refine below_set ?_ GE120.out|refine below_set ?_ GE121.out)|exact HB.out))) : w.heap.size ≤ gb122));have n5_:=Aside0.mk ((by rw [hg];exact (below_size (by repeat (first|(with_reducible first|exact HB.out|apply below_alloc|apply pw_below_drewN|apply below_drew1|refine below_set ?_ GE120.out|refine below_set ?_ GE121.out)|exact HB.out))) : w.heap.size ≤ gb122));have n6_:=Aside0.mk ((by rw [hg];exact Nat.ne_of_lt (blk_lt (g:=gb120) (o:=.cells #[.int .i64 (wrap64 (1 + t117)),.int .i64 t118,.int .i64 t119,.int .u32 0] 25 (0,0)) (by (with_reducible repeat (first|refine blk_drewN ?_ _|refine blk_drew ?_|refine blk_alloc ?_ _));refine blk_far ?_ NB120_121.out _;(with_reducible repeat (first|refine blk_drewN ?_ _|refine blk_drew ?_|refine blk_alloc ?_ _));refine blk_far ?_ NB120_121.out _;(with_reducible repeat (first|refine blk_drewN ?_ _|refine blk_drew ?_|refine blk_alloc ?_ _));refine blk_far ?_ NB120_121.out _;(with_reducible repeat (first|refine blk_drewN ?_ _|refine blk_drew ?_|refine blk_alloc ?_ _));refine blk_far ?_ NB120_121.out _;(with_reducible repeat (first|refine blk_drewN ?_ _|refine blk_drew ?_|refine blk_alloc ?_ _));refine blk_far ?_ NB120_121.out _;(with_reducible repeat (first|refine blk_drewN ?_ _|refine blk_drew ?_|refine blk_alloc ?_ _));exact BK120.out)) : gb120 ≠ gb122));have n7_:=Aside0.mk ((by rw [hg];exact Nat.ne_of_gt (blk_lt (g:=gb120) (o:=.cells #[.int .i64 (wrap64 (1 + t117)),.int .i64 t118,.int .i64 t119,.int .u32 0] 25 (0,0)) (by (with_reducible repeat (first|refine blk_drewN ?_ _|refine blk_drew ?_|refine blk_alloc ?_ _));refine blk_far ?_ NB120_121.out _;(with_reducible repeat (first|refine blk_drewN ?_ _|refine blk_drew ?_|refine blk_alloc ?_ _));refine blk_far ?_ NB120_121.out _;(with_reducible repeat (first|refine blk_drewN ?_ _|refine blk_drew ?_|refine blk_alloc ?_ _));refine blk_far ?_ NB120_121.out _;(with_reducible repeat (first|refine blk_drewN ?_ _|refine blk_drew ?_|refine blk_alloc ?_ _));refine blk_far ?_ NB120_121.out _;(with_reducible repeat (first|refine blk_drewN ?_ _|refine blk_drew ?_|refine blk_alloc ?_ _));refine blk_far ?_ NB120_121.out _;(with_reducible repeat (first|refine blk_drewN ?_ _|refine blk_drew ?_|refine blk_alloc ?_ _));exact BK120.out)) : gb122 ≠ gb120));have n8_:=Aside0.mk ((by rw [hg];exact Nat.ne_of_lt (blk_lt (g:=gb121) (o:=.cells #[.int .i64 (wrap64 ((wrap64 (1 + t117)) + 1)),.int .i64 t118,.int .i64 t119,.int .u32 0] 25 (0,0)) (by (with_reducible repeat (first|refine blk_drewN ?_ _|refine blk_drew ?_|refine blk_alloc ?_ _));refine blk_put (cs:=#[.int .i64 (wrap64 (1 + t117)),.int .i64 t118,.int .i64 t119,.int .u32 0]) ?_ 0 _ rfl;(with_reducible repeat (first|refine blk_drewN ?_ _|refine blk_drew ?_|refine blk_alloc ?_ _));refine blk_put (cs:=#[.int .i64 (wrap64 (1 + t117)),.int .i64 t118,.int .i64 t119,.int .u32 0]) ?_ 3 _ rfl;(with_reducible repeat (first|refine blk_drewN ?_ _|refine blk_drew ?_|refine blk_alloc ?_ _));refine blk_put (cs:=#[.int .i64 (wrap64 (1 + t117)),.int .i64 t118,.int .i64 0,.int .u32 0]) ?_ 2 _ rfl;(with_reducible repeat (first|refine blk_drewN ?_ _|refine blk_drew ?_|refine blk_alloc ?_ _));refine blk_put (cs:=#[.int .i64 (wrap64 (1 + t117)),.int .i64 0,.int .i64 0,.int .u32 0]) ?_ 1 _ rfl;(with_reducible repeat (first|refine blk_drewN ?_ _|refine blk_drew ?_|refine blk_alloc ?_ _));refine blk_put (cs:=#[.int .i64 0,.int .i64 0,.int .i64 0,.int .u32 0]) ?_ 0 _ rfl;(with_reducible repeat (first|refine blk_drewN ?_ _|refine blk_drew ?_|refine blk_alloc ?_ _));exact BK121.out)) : gb121 ≠ gb122));have n9_:=Aside0.mk ((by rw [hg];exact Nat.ne_of_gt (blk_lt (g:=gb121) (o:=.cells #[.int .i64 (wrap64 ((wrap64 (1 + t117)) + 1)),.int .i64 t118,.int .i64 t119,.int .u32 0] 25 (0,0)) (by (with_reducible repeat (first|refine blk_drewN ?_ _|refine blk_drew ?_|refine blk_alloc ?_ _));refine blk_put (cs:=#[.int .i64 (wrap64 (1 + t117)),.int .i64 t118,.int .i64 t119,.int .u32 0]) ?_ 0 _ rfl;(with_reducible repeat (first|refine blk_drewN ?_ _|refine blk_drew ?_|refine blk_alloc ?_ _));refine blk_put (cs:=#[.int .i64 (wrap64 (1 + t117)),.int .i64 t118,.int .i64 t119,.int .u32 0]) ?_ 3 _ rfl;(with_reducible repeat (first|refine blk_drewN ?_ _|refine blk_drew ?_|refine blk_alloc ?_ _));refine blk_put (cs:=#[.int .i64 (wrap64 (1 + t117)),.int .i64 t118,.int .i64 0,.int .u32 0]) ?_ 2 _ rfl;(with_reducible repeat (first|refine blk_drewN ?_ _|refine blk_drew ?_|refine blk_alloc ?_ _));refine blk_put (cs:=#[.int .i64 (wrap64 (1 + t117)),.int .i64 0,.int .i64 0,.int .u32 0]) ?_ 1 _ rfl;(with_reducible repeat (first|refine blk_drewN ?_ _|refine blk_drew ?_|refine blk_alloc ?_ _));refine blk_put (cs:=#[.int .i64 0,.int .i64 0,.int .i64 0,.int .u32 0]) ?_ 0 _ rfl;(with_reducible repeat (first|refine blk_drewN ?_ _|refine blk_drew ?_|refine blk_alloc ?_ _));exact BK121.out)) : gb122 ≠ gb121));clear BK120;clear BK121;clear HB;have BK120:=n0_;have BK121:=n1_;have HB:=n2_;have BK122:=n3_;have GW122:=n4_;have GE122:=n5_;have NB120_122:=n6_;have NB122_120:=n7_;have NB121_122:=n8_;have NB122_121:=n9_;clear n0_ n1_ n2_ n3_ n4_ n5_ n6_ n7_ n8_ n9_;clear hb hbox hg;have hnb18:=NB122_120.out;have hnc18:=NB120_122.out;have hnb19:=NB122_121.out;have hnc19:=NB121_122.out;have hcz20_0 : w17.cell? ⟨gb122,0,none⟩ = some (.int .i64 0):=(blk_cell BK122.out 0).trans rfl;have hcz20_1 : w17.cell? ⟨gb122,1,none⟩ = some (.int .i64 0):=(blk_cell BK122.out 1).trans rfl;have hcz20_2 : w17.cell? ⟨gb122,2,none⟩ = some (.int .i64 0):=(blk_cell BK122.out 2).trans rfl;have hcz20_3 : w17.cell? ⟨gb122,3,none⟩ = some (.int .u32 0):=(blk_cell BK122.out 3).trans rfl;have hfz20_0:=blk_frozen BK122.out 0;have hfz20_1:=blk_frozen BK122.out 1;have hfz20_2:=blk_frozen BK122.out 2;have hfz20_3:=blk_frozen BK122.out 3;have hcz21_0 : w17.cell? ⟨gb120,0,none⟩ = some (.int .i64 (wrap64 (1 + t117))):=(blk_cell BK120.out 0).trans rfl;have hcz21_1 : w17.cell? ⟨gb120,1,none⟩ = some (.int .i64 t118):=(blk_cell BK120.out 1).trans rfl;have hcz21_2 : w17.cell? ⟨gb120,2,none⟩ = some (.int .i64 t119):=(blk_cell BK120.out 2).trans rfl;have hcz21_3 : w17.cell? ⟨gb120,3,none⟩ = some (.int .u32 0):=(blk_cell BK120.out 3).trans rfl;have hfz21_0:=blk_frozen BK120.out 0;have hfz21_1:=blk_frozen BK120.out 1;have hfz21_2:=blk_frozen BK120.out 2;have hfz21_3:=blk_frozen BK120.out 3)|((with_reducible refine gate_dst (N:=11) rfl ?_);refine box_event ?hg (N:=11) ?hd (cs:=#[.int .i64 0,.int .i64 0,.int .i64 0,.int .u32 0]) (t:=25) ?hr ?_;(case hd=>rfl);(case hg=>rfl);(case hr=>first|(go_simp;done)|(go_simp;rfl));intro gb123 hg w22 hbox hb;have n0_:=Aside0.mk (blk_below (g:=gb120) (o:=.cells #[.int .i64 (wrap64 (1 + t117)),.int .i64 t118,.int .i64 t119,.int .u32 0] 25 (0,0)) (by (with_reducible repeat (first|refine blk_drewN ?_ _|refine blk_drew ?_|refine blk_alloc ?_ _));refine blk_far ?_ NB120_122.out _;(with_reducible repeat (first|refine blk_drewN ?_ _|refine blk_drew ?_|refine blk_alloc ?_ _));refine blk_far ?_ NB120_122.out _;(with_reducible repeat (first|refine blk_drewN ?_ _|refine blk_drew ?_|refine blk_alloc ?_ _));refine blk_far ?_ NB120_122.out _;(with_reducible repeat (first|refine blk_drewN ?_ _|refine blk_drew ?_|refine blk_alloc ?_ _));refine blk_far ?_ NB120_122.out _;(with_reducible repeat (first|refine blk_drewN ?_ _|refine blk_drew ?_|refine blk_alloc ?_ _));refine blk_far ?_ NB120_122.out _;(with_reducible repeat (first|refine blk_drewN ?_ _|refine blk_drew ?_|refine blk_alloc ?_ _));exact BK120.out) hb);have n1_:=Aside0.mk (blk_below (g:=gb121) (o:=.cells #[.int .i64 (wrap64 ((wrap64 (1 + t117)) + 1)),.int .i64 t118,.int .i64 t119,.int .u32 0] 25 (0,0)) (by (with_reducible repeat (first|refine blk_drewN ?_ _|refine blk_drew ?_|refine blk_alloc ?_ _));refine blk_far ?_ NB121_122.out _;(with_reducible repeat (first|refine blk_drewN ?_ _|refine blk_drew ?_|refine blk_alloc ?_ _));refine blk_far ?_ NB121_122.out _;(with_reducible repeat (first|refine blk_drewN ?_ _|refine blk_drew ?_|refine blk_alloc ?_ _));refine blk_far ?_ NB121_122.out _;(with_reducible repeat (first|refine blk_drewN ?_ _|refine blk_drew ?_|refine blk_alloc ?_ _));refine blk_far ?_ NB121_122.out _;(with_reducible repeat (first|refine blk_drewN ?_ _|refine blk_drew ?_|refine blk_alloc ?_ _));refine blk_far ?_ NB121_122.out _;(with_reducible repeat (first|refine blk_drewN ?_ _|refine blk_drew ?_|refine blk_alloc ?_ _));exact BK121.out) hb);have n2_:=Aside0.mk (blk_below (g:=gb122) (o:=.cells #[.int .i64 (wrap64 (1 + t117)),.int .i64 (wrap64 (t118 + 1)),.int .i64 t119,.int .u32 0] 25 (0,0)) (by (with_reducible repeat (first|refine blk_drewN ?_ _|refine blk_drew ?_|refine blk_alloc ?_ _));refine blk_put (cs:=#[.int .i64 (wrap64 (1 + t117)),.int .i64 t118,.int .i64 t119,.int .u32 0]) ?_ 1 _ rfl;(with_reducible repeat (first|refine blk_drewN ?_ _|refine blk_drew ?_|refine blk_alloc ?_ _));refine blk_put (cs:=#[.int .i64 (wrap64 (1 + t117)),.int .i64 t118,.int .i64 t119,.int .u32 0]) ?_ 3 _ rfl;(with_reducible repeat (first|refine blk_drewN ?_ _|refine blk_drew ?_|refine blk_alloc ?_ _));refine blk_put (cs:=#[.int .i64 (wrap64 (1 + t117)),.int .i64 t118,.int .i64 0,.int .u32 0]) ?_ 2 _ rfl;(with_reducible repeat (first|refine blk_drewN ?_ _|refine blk_drew ?_|refine blk_alloc ?_ _));refine blk_put (cs:=#[.int .i64 (wrap64 (1 + t117)),.int .i64 0,.int .i64 0,.int .u32 0]) ?_ 1 _ rfl;(with_reducible repeat (first|refine blk_drewN ?_ _|refine blk_drew ?_|refine blk_alloc ?_ _));refine blk_put (cs:=#[.int .i64 0,.int .i64 0,.int .i64 0,.int .u32 0]) ?_ 0 _ rfl;(with_reducible repeat (first|refine blk_drewN ?_ _|refine blk_drew ?_|refine blk_alloc ?_ _));exact BK122.out) hb);have n3_:=Aside0.mk (below_step (by repeat (first|(with_reducible first|exact HB.out|apply below_alloc|apply pw_below_drewN|apply below_drew1|refine below_set ?_ GE120.out|refine below_set ?_ GE121.out|refine below_set ?_ GE122.out)|exact HB.out)) hb);have n4_:=Aside0.mk (hbox);have n5_:=Aside0.mk ((by rw [hg];exact (below_size (by repeat (first|(with_reducible first|exact HB.out|apply below_alloc|apply pw_below_drewN|apply below_drew1|refine below_set ?_ GE120.out|refine below_set ?_ GE121.out|refine below_set ?_ GE122.out)|exact HB.out))) : w.heap.size ≤ gb123));have n6_:=Aside0.mk ((by rw [hg];exact (below_size (by repeat (first|(with_reducible first|exact HB.out|apply below_alloc|apply pw_below_drewN|apply below_drew1|refine below_set ?_ GE120.out|refine below_set ?_ GE121.out|refine below_set ?_ GE122.out)|exact HB.out))) : w.heap.size ≤ gb123));have n7_:=Aside0.mk ((by rw [hg];exact Nat.ne_of_lt (blk_lt (g:=gb120) (o:=.cells #[.int .i64 (wrap64 (1 + t117)),.int .i64 t118,.int .i64 t119,.int .u32 0] 25 (0,0)) (by (with_reducible repeat (first|refine blk_drewN ?_ _|refine blk_drew ?_|refine blk_alloc ?_ _));refine blk_far ?_ NB120_122.out _;(with_reducible repeat (first|refine blk_drewN ?_ _|refine blk_drew ?_|refine blk_alloc ?_ _));refine blk_far ?_ NB120_122.out _;(with_reducible repeat (first|refine blk_drewN ?_ _|refine blk_drew ?_|refine blk_alloc ?_ _));refine blk_far ?_ NB120_122.out _;(with_reducible repeat (first|refine blk_drewN ?_ _|refine blk_drew ?_|refine blk_alloc ?_ _));refine blk_far ?_ NB120_122.out _;(with_reducible repeat (first|refine blk_drewN ?_ _|refine blk_drew ?_|refine blk_alloc ?_ _));refine blk_far ?_ NB120_122.out _;(with_reducible repeat (first|refine blk_drewN ?_ _|refine blk_drew ?_|refine blk_alloc ?_ _));exact BK120.out)) : gb120 ≠ gb123));have n8_:=Aside0.mk ((by rw [hg];exact Nat.ne_of_gt (blk_lt (g:=gb120) (o:=.cells #[.int .i64 (wrap64 (1 + t117)),.int .i64 t118,.int .i64 t119,.int .u32 0] 25 (0,0)) (by (with_reducible repeat (first|refine blk_drewN ?_ _|refine blk_drew ?_|refine blk_alloc ?_ _));refine blk_far ?_ NB120_122.out _;(with_reducible repeat (first|refine blk_drewN ?_ _|refine blk_drew ?_|refine blk_alloc ?_ _));refine blk_far ?_ NB120_122.out _;(with_reducible repeat (first|refine blk_drewN ?_ _|refine blk_drew ?_|refine blk_alloc ?_ _));refine blk_far ?_ NB120_122.out _;(with_reducible repeat (first|refine blk_drewN ?_ _|refine blk_drew ?_|refine blk_alloc ?_ _));refine blk_far ?_ NB120_122.out _;(with_reducible repeat (first|refine blk_drewN ?_ _|refine blk_drew ?_|refine blk_alloc ?_ _));refine blk_far ?_ NB120_122.out _;(with_reducible repeat (first|refine blk_drewN ?_ _|refine blk_drew ?_|refine blk_alloc ?_ _));exact BK120.out)) : gb123 ≠ gb120));have n9_:=Aside0.mk ((by rw [hg];exact Nat.ne_of_lt (blk_lt (g:=gb121) (o:=.cells #[.int .i64 (wrap64 ((wrap64 (1 + t117)) + 1)),.int .i64 t118,.int .i64 t119,.int .u32 0] 25 (0,0)) (by (with_reducible repeat (first|refine blk_drewN ?_ _|refine blk_drew ?_|refine blk_alloc ?_ _));refine blk_far ?_ NB121_122.out _;(with_reducible repeat (first|refine blk_drewN ?_ _|refine blk_drew ?_|refine blk_alloc ?_ _));refine blk_far ?_ NB121_122.out _;(with_reducible repeat (first|refine blk_drewN ?_ _|refine blk_drew ?_|refine blk_alloc ?_ _));refine blk_far ?_ NB121_122.out _;(with_reducible repeat (first|refine blk_drewN ?_ _|refine blk_drew ?_|refine blk_alloc ?_ _));refine blk_far ?_ NB121_122.out _;(with_reducible repeat (first|refine blk_drewN ?_ _|refine blk_drew ?_|refine blk_alloc ?_ _));refine blk_far ?_ NB121_122.out _;(with_reducible repeat (first|refine blk_drewN ?_ _|refine blk_drew ?_|refine blk_alloc ?_ _));exact BK121.out)) : gb121 ≠ gb123));have n10_:=Aside0.mk ((by rw [hg];exact Nat.ne_of_gt (blk_lt (g:=gb121) (o:=.cells #[.int .i64 (wrap64 ((wrap64 (1 + t117)) + 1)),.int .i64 t118,.int .i64 t119,.int .u32 0] 25 (0,0)) (by (with_reducible repeat (first|refine blk_drewN ?_ _|refine blk_drew ?_|refine blk_alloc ?_ _));refine blk_far ?_ NB121_122.out _;(with_reducible repeat (first|refine blk_drewN ?_ _|refine blk_drew ?_|refine blk_alloc ?_ _));refine blk_far ?_ NB121_122.out _;(with_reducible repeat (first|refine blk_drewN ?_ _|refine blk_drew ?_|refine blk_alloc ?_ _));refine blk_far ?_ NB121_122.out _;(with_reducible repeat (first|refine blk_drewN ?_ _|refine blk_drew ?_|refine blk_alloc ?_ _));refine blk_far ?_ NB121_122.out _;(with_reducible repeat (first|refine blk_drewN ?_ _|refine blk_drew ?_|refine blk_alloc ?_ _));refine blk_far ?_ NB121_122.out _;(with_reducible repeat (first|refine blk_drewN ?_ _|refine blk_drew ?_|refine blk_alloc ?_ _));exact BK121.out)) : gb123 ≠ gb121));have n11_:=Aside0.mk ((by rw [hg];exact Nat.ne_of_lt (blk_lt (g:=gb122) (o:=.cells #[.int .i64 (wrap64 (1 + t117)),.int .i64 (wrap64 (t118 + 1)),.int .i64 t119,.int .u32 0] 25 (0,0)) (by (with_reducible repeat (first|refine blk_drewN ?_ _|refine blk_drew ?_|refine blk_alloc ?_ _));refine blk_put (cs:=#[.int .i64 (wrap64 (1 + t117)),.int .i64 t118,.int .i64 t119,.int .u32 0]) ?_ 1 _ rfl;(with_reducible repeat (first|refine blk_drewN ?_ _|refine blk_drew ?_|refine blk_alloc ?_ _));refine blk_put (cs:=#[.int .i64 (wrap64 (1 + t117)),.int .i64 t118,.int .i64 t119,.int .u32 0]) ?_ 3 _ rfl;(with_reducible repeat (first|refine blk_drewN ?_ _|refine blk_drew ?_|refine blk_alloc ?_ _));refine blk_put (cs:=#[.int .i64 (wrap64 (1 + t117)),.int .i64 t118,.int .i64 0,.int .u32 0]) ?_ 2 _ rfl;(with_reducible repeat (first|refine blk_drewN ?_ _|refine blk_drew ?_|refine blk_alloc ?_ _));refine blk_put (cs:=#[.int .i64 (wrap64 (1 + t117)),.int .i64 0,.int .i64 0,.int .u32 0]) ?_ 1 _ rfl;(with_reducible repeat (first|refine blk_drewN ?_ _|refine blk_drew ?_|refine blk_alloc ?_ _));refine blk_put (cs:=#[.int .i64 0,.int .i64 0,.int .i64 0,.int .u32 0]) ?_ 0 _ rfl;(with_reducible repeat (first|refine blk_drewN ?_ _|refine blk_drew ?_|refine blk_alloc ?_ _));exact BK122.out)) : gb122 ≠ gb123));have n12_:=Aside0.mk ((by rw [hg];exact Nat.ne_of_gt (blk_lt (g:=gb122) (o:=.cells #[.int .i64 (wrap64 (1 + t117)),.int .i64 (wrap64 (t118 + 1)),.int .i64 t119,.int .u32 0] 25 (0,0)) (by (with_reducible repeat (first|refine blk_drewN ?_ _|refine blk_drew ?_|refine blk_alloc ?_ _));refine blk_put (cs:=#[.int .i64 (wrap64 (1 + t117)),.int .i64 t118,.int .i64 t119,.int .u32 0]) ?_ 1 _ rfl;(with_reducible repeat (first|refine blk_drewN ?_ _|refine blk_drew ?_|refine blk_alloc ?_ _));refine blk_put (cs:=#[.int .i64 (wrap64 (1 + t117)),.int .i64 t118,.int .i64 t119,.int .u32 0]) ?_ 3 _ rfl;(with_reducible repeat (first|refine blk_drewN ?_ _|refine blk_drew ?_|refine blk_alloc ?_ _));refine blk_put (cs:=#[.int .i64 (wrap64 (1 + t117)),.int .i64 t118,.int .i64 0,.int .u32 0]) ?_ 2 _ rfl;(with_reducible repeat (first|refine blk_drewN ?_ _|refine blk_drew ?_|refine blk_alloc ?_ _));refine blk_put (cs:=#[.int .i64 (wrap64 (1 + t117)),.int .i64 0,.int .i64 0,.int .u32 0]) ?_ 1 _ rfl;(with_reducible repeat (first|refine blk_drewN ?_ _|refine blk_drew ?_|refine blk_alloc ?_ _));refine blk_put (cs:=#[.int .i64 0,.int .i64 0,.int .i64 0,.int .u32 0]) ?_ 0 _ rfl;(with_reducible repeat (first|refine blk_drewN ?_ _|refine blk_drew ?_|refine blk_alloc ?_ _));exact BK122.out)) : gb123 ≠ gb122));clear BK120;clear BK121;clear BK122;clear HB;have BK120:=n0_;have BK121:=n1_;have BK122:=n2_;have HB:=n3_;have BK123:=n4_;have GW123:=n5_;have GE123:=n6_;have NB120_123:=n7_;have NB123_120:=n8_;have NB121_123:=n9_;have NB123_121:=n10_;have NB122_123:=n11_;have NB123_122:=n12_;clear n0_ n1_ n2_ n3_ n4_ n5_ n6_ n7_ n8_ n9_ n10_ n11_ n12_;clear hb hbox hg;have hnb23:=NB123_120.out;have hnc23:=NB120_123.out;have hnb24:=NB123_121.out;have hnc24:=NB121_123.out;have hnb25:=NB123_122.out;have hnc25:=NB122_123.out;have hcz26_0 : w22.cell? ⟨gb123,0,none⟩ = some (.int .i64 0):=(blk_cell BK123.out 0).trans rfl;have hcz26_1 : w22.cell? ⟨gb123,1,none⟩ = some (.int .i64 0):=(blk_cell BK123.out 1).trans rfl;have hcz26_2 : w22.cell? ⟨gb123,2,none⟩ = some (.int .i64 0):=(blk_cell BK123.out 2).trans rfl;have hcz26_3 : w22.cell? ⟨gb123,3,none⟩ = some (.int .u32 0):=(blk_cell BK123.out 3).trans rfl;have hfz26_0:=blk_frozen BK123.out 0;have hfz26_1:=blk_frozen BK123.out 1;have hfz26_2:=blk_frozen BK123.out 2;have hfz26_3:=blk_frozen BK123.out 3))
  (try simp only [Act.put,List.setIfInBounds_toArray,List.set_cons_zero,List.set_cons_succ])
  go_cut [62] (fun v62 wc=>∃ (kq : Nat) (x62_8 : Bool),v62 = .bool x62_8∧Aside0 (hatstandlaw6_LayoutGrows.j0 kq x62_8 (wrap64 (1 + t117)) t118 t119 0 (wrap64 ((wrap64 (1 + t117)) + 1)) t118 t119 0 (wrap64 (1 + t117)) (wrap64 (t118 + 1)) t119 0 (wrap64 (1 + t117)) t118 (wrap64 (t119 + 1)) 0 = some r)∧Aside0 (kq ≤ k)∧Aside0 (wc.heap[gb120]? = some (.cells #[.int .i64 (wrap64 (1 + t117)),.int .i64 t118,.int .i64 t119,.int .u32 0] 25 (0,0)))∧Aside0 (wc.heap[gb121]? = some (.cells #[.int .i64 (wrap64 ((wrap64 (1 + t117)) + 1)),.int .i64 t118,.int .i64 t119,.int .u32 0] 25 (0,0)))∧Aside0 (wc.heap[gb122]? = some (.cells #[.int .i64 (wrap64 (1 + t117)),.int .i64 (wrap64 (t118 + 1)),.int .i64 t119,.int .u32 0] 25 (0,0)))∧Aside0 (wc.heap[gb123]? = some (.cells #[.int .i64 (wrap64 (1 + t117)),.int .i64 t118,.int .i64 (wrap64 (t119 + 1)),.int .u32 0] 25 (0,0)))∧Aside0 (Below w.heap.size w wc))
  case first =>
   have H:=HC9.out
   clear HC9
   replace H:=Option.bind_eq_some_iff.mp H
   obtain ⟨t124,A270,H⟩:=H
   replace H : ((layout_Config_Cells.f (wrap64 (1 + t117)) t118 t119 0).bind fun t125=>(if t124 = (wrap64 (t125 + 2)) then ((layout_Config_Cells.f (wrap64 (1 + t117)) (wrap64 (t118 + 1)) t119 0).bind fun t126=>((layout_Config_Cells.f (wrap64 (1 + t117)) t118 t119 0).bind fun t127=>(if t126 = (wrap64 (t127 + 1)) then ((layout_Config_Cells.f (wrap64 (1 + t117)) t118 (wrap64 (t119 + 1)) 0).bind fun t128=>((layout_Config_Cells.f (wrap64 (1 + t117)) t118 t119 0).bind fun t129=>(hatstandlaw6_LayoutGrows.j0 k (t128 != (wrap64 (t129 + 1))) (wrap64 (1 + t117)) t118 t119 0 (wrap64 ((wrap64 (1 + t117)) + 1)) t118 t119 0 (wrap64 (1 + t117)) (wrap64 (t118 + 1)) t119 0 (wrap64 (1 + t117)) t118 (wrap64 (t119 + 1)) 0))) else (hatstandlaw6_LayoutGrows.j0 k true (wrap64 (1 + t117)) t118 t119 0 (wrap64 ((wrap64 (1 + t117)) + 1)) t118 t119 0 (wrap64 (1 + t117)) (wrap64 (t118 + 1)) t119 0 (wrap64 (1 + t117)) t118 (wrap64 (t119 + 1)) 0)))) else (hatstandlaw6_LayoutGrows.j0 k true (wrap64 (1 + t117)) t118 t119 0 (wrap64 ((wrap64 (1 + t117)) + 1)) t118 t119 0 (wrap64 (1 + t117)) (wrap64 (t118 + 1)) t119 0 (wrap64 (1 + t117)) t118 (wrap64 (t119 + 1)) 0))) = some r:=H
   have A27:=Aside0.mk A270
   clear A270
   replace H:=Option.bind_eq_some_iff.mp H
   obtain ⟨t125,A280,H⟩:=H
   replace H : (if t124 = (wrap64 (t125 + 2)) then ((layout_Config_Cells.f (wrap64 (1 + t117)) (wrap64 (t118 + 1)) t119 0).bind fun t126=>((layout_Config_Cells.f (wrap64 (1 + t117)) t118 t119 0).bind fun t127=>(if t126 = (wrap64 (t127 + 1)) then ((layout_Config_Cells.f (wrap64 (1 + t117)) t118 (wrap64 (t119 + 1)) 0).bind fun t128=>((layout_Config_Cells.f (wrap64 (1 + t117)) t118 t119 0).bind fun t129=>(hatstandlaw6_LayoutGrows.j0 k (t128 != (wrap64 (t129 + 1))) (wrap64 (1 + t117)) t118 t119 0 (wrap64 ((wrap64 (1 + t117)) + 1)) t118 t119 0 (wrap64 (1 + t117)) (wrap64 (t118 + 1)) t119 0 (wrap64 (1 + t117)) t118 (wrap64 (t119 + 1)) 0))) else (hatstandlaw6_LayoutGrows.j0 k true (wrap64 (1 + t117)) t118 t119 0 (wrap64 ((wrap64 (1 + t117)) + 1)) t118 t119 0 (wrap64 (1 + t117)) (wrap64 (t118 + 1)) t119 0 (wrap64 (1 + t117)) t118 (wrap64 (t119 + 1)) 0)))) else (hatstandlaw6_LayoutGrows.j0 k true (wrap64 (1 + t117)) t118 t119 0 (wrap64 ((wrap64 (1 + t117)) + 1)) t118 t119 0 (wrap64 (1 + t117)) (wrap64 (t118 + 1)) t119 0 (wrap64 (1 + t117)) t118 (wrap64 (t119 + 1)) 0)) = some r:=H
   have A28:=Aside0.mk A280
   clear A280
   by_cases c29 : t124 = (wrap64 (t125 + 2))
   ·rw [if_pos c29] at H
    have c29b0 : (t124 == (wrap64 (t125 + 2))) = true:=beq_iff_eq.mpr c29
    have c29b1 : (t124 != (wrap64 (t125 + 2))) = false:=bne_eq_false_iff_eq.mpr c29
    clear c29
    (first|rw [c29b0]|(simp only [i64_w,i32_w];rw [c29b0])|skip)
    replace H:=Option.bind_eq_some_iff.mp H
    obtain ⟨t126,A300,H⟩:=H
    replace H : ((layout_Config_Cells.f (wrap64 (1 + t117)) t118 t119 0).bind fun t127=>(if t126 = (wrap64 (t127 + 1)) then ((layout_Config_Cells.f (wrap64 (1 + t117)) t118 (wrap64 (t119 + 1)) 0).bind fun t128=>((layout_Config_Cells.f (wrap64 (1 + t117)) t118 t119 0).bind fun t129=>(hatstandlaw6_LayoutGrows.j0 k (t128 != (wrap64 (t129 + 1))) (wrap64 (1 + t117)) t118 t119 0 (wrap64 ((wrap64 (1 + t117)) + 1)) t118 t119 0 (wrap64 (1 + t117)) (wrap64 (t118 + 1)) t119 0 (wrap64 (1 + t117)) t118 (wrap64 (t119 + 1)) 0))) else (hatstandlaw6_LayoutGrows.j0 k true (wrap64 (1 + t117)) t118 t119 0 (wrap64 ((wrap64 (1 + t117)) + 1)) t118 t119 0 (wrap64 (1 + t117)) (wrap64 (t118 + 1)) t119 0 (wrap64 (1 + t117)) t118 (wrap64 (t119 + 1)) 0))) = some r:=H
    have A30:=Aside0.mk A300
    clear A300
    replace H:=Option.bind_eq_some_iff.mp H
    obtain ⟨t127,A310,H⟩:=H
    replace H : (if t126 = (wrap64 (t127 + 1)) then ((layout_Config_Cells.f (wrap64 (1 + t117)) t118 (wrap64 (t119 + 1)) 0).bind fun t128=>((layout_Config_Cells.f (wrap64 (1 + t117)) t118 t119 0).bind fun t129=>(hatstandlaw6_LayoutGrows.j0 k (t128 != (wrap64 (t129 + 1))) (wrap64 (1 + t117)) t118 t119 0 (wrap64 ((wrap64 (1 + t117)) + 1)) t118 t119 0 (wrap64 (1 + t117)) (wrap64 (t118 + 1)) t119 0 (wrap64 (1 + t117)) t118 (wrap64 (t119 + 1)) 0))) else (hatstandlaw6_LayoutGrows.j0 k true (wrap64 (1 + t117)) t118 t119 0 (wrap64 ((wrap64 (1 + t117)) + 1)) t118 t119 0 (wrap64 (1 + t117)) (wrap64 (t118 + 1)) t119 0 (wrap64 (1 + t117)) t118 (wrap64 (t119 + 1)) 0)) = some r:=H
    have A31:=Aside0.mk A310
    clear A310
    by_cases c32 : t126 = (wrap64 (t127 + 1))
    ·rw [if_pos c32] at H
     have c32b0 : (t126 == (wrap64 (t127 + 1))) = true:=beq_iff_eq.mpr c32
     have c32b1 : (t126 != (wrap64 (t127 + 1))) = false:=bne_eq_false_iff_eq.mpr c32
     clear c32
     replace H:=Option.bind_eq_some_iff.mp H
     obtain ⟨t128,A330,H⟩:=H
     replace H : ((layout_Config_Cells.f (wrap64 (1 + t117)) t118 t119 0).bind fun t129=>(hatstandlaw6_LayoutGrows.j0 k (t128 != (wrap64 (t129 + 1))) (wrap64 (1 + t117)) t118 t119 0 (wrap64 ((wrap64 (1 + t117)) + 1)) t118 t119 0 (wrap64 (1 + t117)) (wrap64 (t118 + 1)) t119 0 (wrap64 (1 + t117)) t118 (wrap64 (t119 + 1)) 0)) = some r:=H
     have A33:=Aside0.mk A330
     clear A330
     replace H:=Option.bind_eq_some_iff.mp H
     obtain ⟨t129,A340,H⟩:=H
     replace H : (hatstandlaw6_LayoutGrows.j0 k (t128 != (wrap64 (t129 + 1))) (wrap64 (1 + t117)) t118 t119 0 (wrap64 ((wrap64 (1 + t117)) + 1)) t118 t119 0 (wrap64 (1 + t117)) (wrap64 (t118 + 1)) t119 0 (wrap64 (1 + t117)) t118 (wrap64 (t119 + 1)) 0) = some r:=H
     have A34:=Aside0.mk A340
     clear A340
     have H':=Aside0.mk H
     clear H
     try go_wp2
     have n0_ : Aside0 ((((((w22.setCell ⟨gb123,0,none⟩ (.int .i64 (wrap64 (1 + t117)))).setCell ⟨gb123,1,none⟩ (.int .i64 t118)).setCell ⟨gb123,2,none⟩ (.int .i64 t119)).setCell ⟨gb123,3,none⟩ (.int .u32 0)).setCell ⟨gb123,2,none⟩ (.int .i64 (wrap64 (t119 + 1)))).heap[gb120]? = some (.cells #[.int .i64 (wrap64 (1 + t117)),.int .i64 t118,.int .i64 t119,.int .u32 0] 25 (0,0))):=⟨by (with_reducible repeat (first|refine blk_drewN ?_ _|refine blk_drew ?_|refine blk_alloc ?_ _));refine blk_far ?_ NB120_123.out _;(with_reducible repeat (first|refine blk_drewN ?_ _|refine blk_drew ?_|refine blk_alloc ?_ _));refine blk_far ?_ NB120_123.out _;(with_reducible repeat (first|refine blk_drewN ?_ _|refine blk_drew ?_|refine blk_alloc ?_ _));refine blk_far ?_ NB120_123.out _;(with_reducible repeat (first|refine blk_drewN ?_ _|refine blk_drew ?_|refine blk_alloc ?_ _));refine blk_far ?_ NB120_123.out _;(with_reducible repeat (first|refine blk_drewN ?_ _|refine blk_drew ?_|refine blk_alloc ?_ _));refine blk_far ?_ NB120_123.out _;(with_reducible repeat (first|refine blk_drewN ?_ _|refine blk_drew ?_|refine blk_alloc ?_ _));exact BK120.out⟩
     have n1_ : Aside0 ((((((w22.setCell ⟨gb123,0,none⟩ (.int .i64 (wrap64 (1 + t117)))).setCell ⟨gb123,1,none⟩ (.int .i64 t118)).setCell ⟨gb123,2,none⟩ (.int .i64 t119)).setCell ⟨gb123,3,none⟩ (.int .u32 0)).setCell ⟨gb123,2,none⟩ (.int .i64 (wrap64 (t119 + 1)))).heap[gb121]? = some (.cells #[.int .i64 (wrap64 ((wrap64 (1 + t117)) + 1)),.int .i64 t118,.int .i64 t119,.int .u32 0] 25 (0,0))):=⟨by (with_reducible repeat (first|refine blk_drewN ?_ _|refine blk_drew ?_|refine blk_alloc ?_ _));refine blk_far ?_ NB121_123.out _;(with_reducible repeat (first|refine blk_drewN ?_ _|refine blk_drew ?_|refine blk_alloc ?_ _));refine blk_far ?_ NB121_123.out _;(with_reducible repeat (first|refine blk_drewN ?_ _|refine blk_drew ?_|refine blk_alloc ?_ _));refine blk_far ?_ NB121_123.out _;(with_reducible repeat (first|refine blk_drewN ?_ _|refine blk_drew ?_|refine blk_alloc ?_ _));refine blk_far ?_ NB121_123.out _;(with_reducible repeat (first|refine blk_drewN ?_ _|refine blk_drew ?_|refine blk_alloc ?_ _));refine blk_far ?_ NB121_123.out _;(with_reducible repeat (first|refine blk_drewN ?_ _|refine blk_drew ?_|refine blk_alloc ?_ _));exact BK121.out⟩
     have n2_ : Aside0 ((((((w22.setCell ⟨gb123,0,none⟩ (.int .i64 (wrap64 (1 + t117)))).setCell ⟨gb123,1,none⟩ (.int .i64 t118)).setCell ⟨gb123,2,none⟩ (.int .i64 t119)).setCell ⟨gb123,3,none⟩ (.int .u32 0)).setCell ⟨gb123,2,none⟩ (.int .i64 (wrap64 (t119 + 1)))).heap[gb122]? = some (.cells #[.int .i64 (wrap64 (1 + t117)),.int .i64 (wrap64 (t118 + 1)),.int .i64 t119,.int .u32 0] 25 (0,0))):=⟨by (with_reducible repeat (first|refine blk_drewN ?_ _|refine blk_drew ?_|refine blk_alloc ?_ _));refine blk_far ?_ NB122_123.out _;(with_reducible repeat (first|refine blk_drewN ?_ _|refine blk_drew ?_|refine blk_alloc ?_ _));refine blk_far ?_ NB122_123.out _;(with_reducible repeat (first|refine blk_drewN ?_ _|refine blk_drew ?_|refine blk_alloc ?_ _));refine blk_far ?_ NB122_123.out _;(with_reducible repeat (first|refine blk_drewN ?_ _|refine blk_drew ?_|refine blk_alloc ?_ _));refine blk_far ?_ NB122_123.out _;(with_reducible repeat (first|refine blk_drewN ?_ _|refine blk_drew ?_|refine blk_alloc ?_ _));refine blk_far ?_ NB122_123.out _;(with_reducible repeat (first|refine blk_drewN ?_ _|refine blk_drew ?_|refine blk_alloc ?_ _));exact BK122.out⟩
     have n3_ : Aside0 ((((((w22.setCell ⟨gb123,0,none⟩ (.int .i64 (wrap64 (1 + t117)))).setCell ⟨gb123,1,none⟩ (.int .i64 t118)).setCell ⟨gb123,2,none⟩ (.int .i64 t119)).setCell ⟨gb123,3,none⟩ (.int .u32 0)).setCell ⟨gb123,2,none⟩ (.int .i64 (wrap64 (t119 + 1)))).heap[gb123]? = some (.cells #[.int .i64 (wrap64 (1 + t117)),.int .i64 t118,.int .i64 (wrap64 (t119 + 1)),.int .u32 0] 25 (0,0))):=⟨by (with_reducible repeat (first|refine blk_drewN ?_ _|refine blk_drew ?_|refine blk_alloc ?_ _));refine blk_put (cs:=#[.int .i64 (wrap64 (1 + t117)),.int .i64 t118,.int .i64 t119,.int .u32 0]) ?_ 2 _ rfl;(with_reducible repeat (first|refine blk_drewN ?_ _|refine blk_drew ?_|refine blk_alloc ?_ _));refine blk_put (cs:=#[.int .i64 (wrap64 (1 + t117)),.int .i64 t118,.int .i64 t119,.int .u32 0]) ?_ 3 _ rfl;(with_reducible repeat (first|refine blk_drewN ?_ _|refine blk_drew ?_|refine blk_alloc ?_ _));refine blk_put (cs:=#[.int .i64 (wrap64 (1 + t117)),.int .i64 t118,.int .i64 0,.int .u32 0]) ?_ 2 _ rfl;(with_reducible repeat (first|refine blk_drewN ?_ _|refine blk_drew ?_|refine blk_alloc ?_ _));refine blk_put (cs:=#[.int .i64 (wrap64 (1 + t117)),.int .i64 0,.int .i64 0,.int .u32 0]) ?_ 1 _ rfl;(with_reducible repeat (first|refine blk_drewN ?_ _|refine blk_drew ?_|refine blk_alloc ?_ _));refine blk_put (cs:=#[.int .i64 0,.int .i64 0,.int .i64 0,.int .u32 0]) ?_ 0 _ rfl;(with_reducible repeat (first|refine blk_drewN ?_ _|refine blk_drew ?_|refine blk_alloc ?_ _));exact BK123.out⟩
     have n4_ : Aside0 (Below w.heap.size w (((((w22.setCell ⟨gb123,0,none⟩ (.int .i64 (wrap64 (1 + t117)))).setCell ⟨gb123,1,none⟩ (.int .i64 t118)).setCell ⟨gb123,2,none⟩ (.int .i64 t119)).setCell ⟨gb123,3,none⟩ (.int .u32 0)).setCell ⟨gb123,2,none⟩ (.int .i64 (wrap64 (t119 + 1))))):=⟨by repeat (first|(with_reducible first|exact HB.out|apply below_alloc|apply pw_below_drewN|apply below_drew1|refine below_set ?_ GE120.out|refine below_set ?_ GE121.out|refine below_set ?_ GE122.out|refine below_set ?_ GE123.out)|exact HB.out)⟩
     (try clear BK120)
     (try clear BK121)
     (try clear BK122)
     (try clear BK123)
     (try clear HB)
     generalize (((((w22.setCell ⟨gb123,0,none⟩ (.int .i64 (wrap64 (1 + t117)))).setCell ⟨gb123,1,none⟩ (.int .i64 t118)).setCell ⟨gb123,2,none⟩ (.int .i64 t119)).setCell ⟨gb123,3,none⟩ (.int .u32 0)).setCell ⟨gb123,2,none⟩ (.int .i64 (wrap64 (t119 + 1)))) = w35 at n0_ n1_ n2_ n3_ n4_ ⊢
     have BK120:=n0_
     have BK121:=n1_
     have BK122:=n2_
     have BK123:=n3_
     have HB:=n4_
     clear n0_ n1_ n2_ n3_ n4_
     have n0_:=Aside0.mk (blk_drew BK120.out)
     have n1_:=Aside0.mk (blk_drew BK121.out)
     have n2_:=Aside0.mk (blk_drew BK122.out)
     have n3_:=Aside0.mk (blk_drew BK123.out)
     have n4_:=Aside0.mk (below_drew1 HB.out)
     clear BK120
     clear BK121
     clear BK122
     clear BK123
     clear HB
     have BK120:=n0_
     have BK121:=n1_
     have BK122:=n2_
     have BK123:=n3_
     have HB:=n4_
     clear n0_ n1_ n2_ n3_ n4_
     refine start_ (n:=22) (S:=fun w'=>w'.cell? ⟨gb121,0,none⟩ = some (.int .i64 (wrap64 ((wrap64 (1 + t117)) + 1)))∧w'.cell? ⟨gb121,1,none⟩ = some (.int .i64 t118)∧w'.cell? ⟨gb121,2,none⟩ = some (.int .i64 t119)∧w'.cell? ⟨gb121,3,none⟩ = some (.int .u32 0)∧w'.cell? ⟨gb120,0,none⟩ = some (.int .i64 (wrap64 (1 + t117)))∧w'.cell? ⟨gb120,1,none⟩ = some (.int .i64 t118)∧w'.cell? ⟨gb120,2,none⟩ = some (.int .i64 t119)∧w'.cell? ⟨gb120,3,none⟩ = some (.int .u32 0)∧w'.cell? ⟨gb122,0,none⟩ = some (.int .i64 (wrap64 (1 + t117)))∧w'.cell? ⟨gb122,1,none⟩ = some (.int .i64 (wrap64 (t118 + 1)))∧w'.cell? ⟨gb122,2,none⟩ = some (.int .i64 t119)∧w'.cell? ⟨gb122,3,none⟩ = some (.int .u32 0)∧w'.cell? ⟨gb123,0,none⟩ = some (.int .i64 (wrap64 (1 + t117)))∧w'.cell? ⟨gb123,1,none⟩ = some (.int .i64 t118)∧w'.cell? ⟨gb123,2,none⟩ = some (.int .i64 (wrap64 (t119 + 1)))∧w'.cell? ⟨gb123,3,none⟩ = some (.int .u32 0)) (ds:=[]) #[false,false,false,false,false,false,false,false,false,false,false,false,false,false,false,false,false,false,false,false,false,false] (by kernel_rfl) rfl rfl ⟨(blk_cell BK121.out 0).trans rfl,(blk_cell BK121.out 1).trans rfl,(blk_cell BK121.out 2).trans rfl,(blk_cell BK121.out 3).trans rfl,(blk_cell BK120.out 0).trans rfl,(blk_cell BK120.out 1).trans rfl,(blk_cell BK120.out 2).trans rfl,(blk_cell BK120.out 3).trans rfl,(blk_cell BK122.out 0).trans rfl,(blk_cell BK122.out 1).trans rfl,(blk_cell BK122.out 2).trans rfl,(blk_cell BK122.out 3).trans rfl,(blk_cell BK123.out 0).trans rfl,(blk_cell BK123.out 1).trans rfl,(blk_cell BK123.out 2).trans rfl,(blk_cell BK123.out 3).trans rfl⟩ (fun hHeld=>?_);refine with_tabW hatstandlaw6_LayoutGrows.tab11 hatstandlaw6_LayoutGrows.bits11 (fun HT_ HW_=>?_)
     generalize w35.drew = w36 at BK120 BK121 BK122 BK123 HB hHeld ⊢
     refine take_ (i:=0) (N:=some 41) (v:=?_) (a':=?_) #[true,false,false,false,false,false,false,false,false,false,false,false,false,false,false,false,false,false,false,false,false,false] rfl rfl (take_ofW HT_.out HW_.out (by kernel_rfl)) (fun _ _ _ h=>h) (Or.inl ⟨by rfl,?_⟩) hHeld ?_ ?_
     rotate_left
     ·rintro w' ⟨s0,s1,s2,s3,s4,s5,s6,s7,s8,s9,s10,s11,s12,s13,s14,s15⟩
      go_simp
      with_reducible rfl
     rotate_left
     ·simp only [Act.put,List.setIfInBounds_toArray,List.set_cons_zero,List.set_cons_succ,i64_w,i32_w]
      rfl
     refine take_ (i:=2) (N:=some 43) (v:=?_) (a':=?_) #[true,false,true,false,false,false,false,false,false,false,false,false,false,false,false,false,false,false,false,false,false,false] rfl rfl (take_ofW HT_.out HW_.out (by kernel_rfl)) (fun _ _ _ h=>h) (Or.inl ⟨by rfl,?_⟩) hHeld ?_ ?_
     rotate_left
     ·rintro w' ⟨s0,s1,s2,s3,s4,s5,s6,s7,s8,s9,s10,s11,s12,s13,s14,s15⟩
      go_simp
      with_reducible rfl
     rotate_left
     ·simp only [Act.put,List.setIfInBounds_toArray,List.set_cons_zero,List.set_cons_succ,i64_w,i32_w]
      rfl
     refine one_ (i:=1) (N:=some 42) #[true,true,true,false,false,false,false,false,false,false,false,false,false,false,false,false,false,false,false,false,false,false] rfl rfl (one_of HT_.out (by kernel_rfl)) (by decide) (fun K hK=>?_)
     refine goes_ Try.func18 (by kernel_rfl) rfl #[.agg #[.int .i64 (wrap64 ((wrap64 (1 + t117)) + 1)),.int .i64 t118,.int .i64 t119,.int .u32 0]] (by rfl) rfl rfl (by (try simp only [List.map_toArray,List.map_cons,List.map_nil]);first|done|rfl|(simp only [List.length_drop,List.length_take];rfl)) ?_
     with_reducible refine (layout_Config_Cells.calls (wrap64 ((wrap64 (1 + t117)) + 1)) t118 t119 0 t124 _ A27.out).mono ?_
     rintro e w37 ⟨rfl,hb⟩
     refine ⟨_,rfl,?_⟩
     have n0_:=Aside0.mk (blk_below (g:=gb120) (o:=.cells #[.int .i64 (wrap64 (1 + t117)),.int .i64 t118,.int .i64 t119,.int .u32 0] 25 (0,0)) (by (with_reducible repeat (first|refine blk_drewN ?_ _|refine blk_drew ?_|refine blk_alloc ?_ _));exact BK120.out) hb)
     have n1_:=Aside0.mk (blk_below (g:=gb121) (o:=.cells #[.int .i64 (wrap64 ((wrap64 (1 + t117)) + 1)),.int .i64 t118,.int .i64 t119,.int .u32 0] 25 (0,0)) (by (with_reducible repeat (first|refine blk_drewN ?_ _|refine blk_drew ?_|refine blk_alloc ?_ _));exact BK121.out) hb)
     have n2_:=Aside0.mk (blk_below (g:=gb122) (o:=.cells #[.int .i64 (wrap64 (1 + t117)),.int .i64 (wrap64 (t118 + 1)),.int .i64 t119,.int .u32 0] 25 (0,0)) (by (with_reducible repeat (first|refine blk_drewN ?_ _|refine blk_drew ?_|refine blk_alloc ?_ _));exact BK122.out) hb)
     have n3_:=Aside0.mk (blk_below (g:=gb123) (o:=.cells #[.int .i64 (wrap64 (1 + t117)),.int .i64 t118,.int .i64 (wrap64 (t119 + 1)),.int .u32 0] 25 (0,0)) (by (with_reducible repeat (first|refine blk_drewN ?_ _|refine blk_drew ?_|refine blk_alloc ?_ _));exact BK123.out) hb)
     have n4_:=Aside0.mk (below_step (by repeat (first|(with_reducible first|exact HB.out|apply below_alloc|apply pw_below_drewN|apply below_drew1|refine below_set ?_ GE120.out|refine below_set ?_ GE121.out|refine below_set ?_ GE122.out|refine below_set ?_ GE123.out)|exact HB.out)) hb)
     clear BK120
     clear BK121
     clear BK122
     clear BK123
     clear HB
     have BK120:=n0_
     have BK121:=n1_
     have BK122:=n2_
     have BK123:=n3_
     have HB:=n4_
     clear n0_ n1_ n2_ n3_ n4_
     (try clear hb)
     (try clear hb2)
     (try clear hk)
     (try clear hi)
     refine hK.out _ _ ⟨(blk_cell BK121.out 0).trans rfl,(blk_cell BK121.out 1).trans rfl,(blk_cell BK121.out 2).trans rfl,(blk_cell BK121.out 3).trans rfl,(blk_cell BK120.out 0).trans rfl,(blk_cell BK120.out 1).trans rfl,(blk_cell BK120.out 2).trans rfl,(blk_cell BK120.out 3).trans rfl,(blk_cell BK122.out 0).trans rfl,(blk_cell BK122.out 1).trans rfl,(blk_cell BK122.out 2).trans rfl,(blk_cell BK122.out 3).trans rfl,(blk_cell BK123.out 0).trans rfl,(blk_cell BK123.out 1).trans rfl,(blk_cell BK123.out 2).trans rfl,(blk_cell BK123.out 3).trans rfl⟩ (fun hHeld=>?_)
     clear hK K
     refine norm_ (a':=?_) ?_ ?_
     rotate_left
     ·show Act.put _ (some 42) _ = _
      simp only [Act.put,List.setIfInBounds_toArray,List.set_cons_zero,List.set_cons_succ,i64_w,i32_w]
      rfl
     refine one_ (i:=3) (N:=some 44) #[true,true,true,true,false,false,false,false,false,false,false,false,false,false,false,false,false,false,false,false,false,false] rfl rfl (one_of HT_.out (by kernel_rfl)) (by decide) (fun K hK=>?_)
     refine goes_ Try.func18 (by kernel_rfl) rfl #[.agg #[.int .i64 (wrap64 (1 + t117)),.int .i64 t118,.int .i64 t119,.int .u32 0]] (by rfl) rfl rfl (by (try simp only [List.map_toArray,List.map_cons,List.map_nil]);first|done|rfl|(simp only [List.length_drop,List.length_take];rfl)) ?_
     with_reducible refine (layout_Config_Cells.calls (wrap64 (1 + t117)) t118 t119 0 t125 _ A28.out).mono ?_
     rintro e w38 ⟨rfl,hb⟩
     refine ⟨_,rfl,?_⟩
     have n0_:=Aside0.mk (blk_below (g:=gb120) (o:=.cells #[.int .i64 (wrap64 (1 + t117)),.int .i64 t118,.int .i64 t119,.int .u32 0] 25 (0,0)) (by (with_reducible repeat (first|refine blk_drewN ?_ _|refine blk_drew ?_|refine blk_alloc ?_ _));exact BK120.out) hb)
     have n1_:=Aside0.mk (blk_below (g:=gb121) (o:=.cells #[.int .i64 (wrap64 ((wrap64 (1 + t117)) + 1)),.int .i64 t118,.int .i64 t119,.int .u32 0] 25 (0,0)) (by (with_reducible repeat (first|refine blk_drewN ?_ _|refine blk_drew ?_|refine blk_alloc ?_ _));exact BK121.out) hb)
     have n2_:=Aside0.mk (blk_below (g:=gb122) (o:=.cells #[.int .i64 (wrap64 (1 + t117)),.int .i64 (wrap64 (t118 + 1)),.int .i64 t119,.int .u32 0] 25 (0,0)) (by (with_reducible repeat (first|refine blk_drewN ?_ _|refine blk_drew ?_|refine blk_alloc ?_ _));exact BK122.out) hb)
     have n3_:=Aside0.mk (blk_below (g:=gb123) (o:=.cells #[.int .i64 (wrap64 (1 + t117)),.int .i64 t118,.int .i64 (wrap64 (t119 + 1)),.int .u32 0] 25 (0,0)) (by (with_reducible repeat (first|refine blk_drewN ?_ _|refine blk_drew ?_|refine blk_alloc ?_ _));exact BK123.out) hb)
     have n4_:=Aside0.mk (below_step (by repeat (first|(with_reducible first|exact HB.out|apply below_alloc|apply pw_below_drewN|apply below_drew1|refine below_set ?_ GE120.out|refine below_set ?_ GE121.out|refine below_set ?_ GE122.out|refine below_set ?_ GE123.out)|exact HB.out)) hb)
     clear BK120
     clear BK121
     clear BK122
     clear BK123
     clear HB
     have BK120:=n0_
     have BK121:=n1_
     have BK122:=n2_
     have BK123:=n3_
     have HB:=n4_
     clear n0_ n1_ n2_ n3_ n4_
     (try clear hb)
     (try clear hb2)
     (try clear hk)
     (try clear hi)
     refine hK.out _ _ ⟨(blk_cell BK121.out 0).trans rfl,(blk_cell BK121.out 1).trans rfl,(blk_cell BK121.out 2).trans rfl,(blk_cell BK121.out 3).trans rfl,(blk_cell BK120.out 0).trans rfl,(blk_cell BK120.out 1).trans rfl,(blk_cell BK120.out 2).trans rfl,(blk_cell BK120.out 3).trans rfl,(blk_cell BK122.out 0).trans rfl,(blk_cell BK122.out 1).trans rfl,(blk_cell BK122.out 2).trans rfl,(blk_cell BK122.out 3).trans rfl,(blk_cell BK123.out 0).trans rfl,(blk_cell BK123.out 1).trans rfl,(blk_cell BK123.out 2).trans rfl,(blk_cell BK123.out 3).trans rfl⟩ (fun hHeld=>?_)
     clear hK K
     refine norm_ (a':=?_) ?_ ?_
     rotate_left
     ·show Act.put _ (some 44) _ = _
      simp only [Act.put,List.setIfInBounds_toArray,List.set_cons_zero,List.set_cons_succ,i64_w,i32_w]
      rfl
     refine pure_ (i:=4) (N:=some 45) (v:=?_) (a':=?_) #[true,true,true,true,true,false,false,false,false,false,false,false,false,false,false,false,false,false,false,false,false,false] rfl rfl (any_of HT_.out (by kernel_rfl)) (fun _ _ _ h=>h) (Or.inl ⟨by rfl,?_⟩) ?_ ?_
     rotate_left
     ·intro w'
      go_simp
      with_reducible rfl
     rotate_left
     ·simp only [Act.put,List.setIfInBounds_toArray,List.set_cons_zero,List.set_cons_succ,i64_w,i32_w]
      rfl
     refine pure_ (i:=5) (N:=some 46) (v:=?_) (a':=?_) #[true,true,true,true,true,true,false,false,false,false,false,false,false,false,false,false,false,false,false,false,false,false] rfl rfl (any_of HT_.out (by kernel_rfl)) (fun _ _ _ h=>h) (Or.inl ⟨by rfl,?_⟩) ?_ ?_
     rotate_left
     ·intro w'
      go_simp
      with_reducible rfl
     rotate_left
     ·simp only [Act.put,List.setIfInBounds_toArray,List.set_cons_zero,List.set_cons_succ,i64_w,i32_w]
      rfl
     refine pure_ (i:=6) (N:=some 47) (v:=?_) (a':=?_) #[true,true,true,true,true,true,true,false,false,false,false,false,false,false,false,false,false,false,false,false,false,false] rfl rfl (any_of HT_.out (by kernel_rfl)) (fun _ _ _ h=>h) (Or.inl ⟨by rfl,?_⟩) ?_ ?_
     rotate_left
     ·intro w'
      go_simp
      with_reducible rfl
     rotate_left
     ·simp only [Act.put,List.setIfInBounds_toArray,List.set_cons_zero,List.set_cons_succ,i64_w,i32_w]
      rfl
     refine take_ (i:=7) (N:=some 48) (v:=?_) (a':=?_) #[true,true,true,true,true,true,true,true,false,false,false,false,false,false,false,false,false,false,false,false,false,false] rfl rfl (take_ofW HT_.out HW_.out (by kernel_rfl)) (fun _ _ _ h=>h) (Or.inl ⟨by rfl,?_⟩) hHeld ?_ ?_
     rotate_left
     ·rintro w' ⟨s0,s1,s2,s3,s4,s5,s6,s7,s8,s9,s10,s11,s12,s13,s14,s15⟩
      go_simp
      with_reducible rfl
     rotate_left
     ·simp only [Act.put,List.setIfInBounds_toArray,List.set_cons_zero,List.set_cons_succ,i64_w,i32_w]
      rfl
     refine take_ (i:=9) (N:=some 50) (v:=?_) (a':=?_) #[true,true,true,true,true,true,true,true,false,true,false,false,false,false,false,false,false,false,false,false,false,false] rfl rfl (take_ofW HT_.out HW_.out (by kernel_rfl)) (fun _ _ _ h=>h) (Or.inl ⟨by rfl,?_⟩) hHeld ?_ ?_
     rotate_left
     ·rintro w' ⟨s0,s1,s2,s3,s4,s5,s6,s7,s8,s9,s10,s11,s12,s13,s14,s15⟩
      go_simp
      with_reducible rfl
     rotate_left
     ·simp only [Act.put,List.setIfInBounds_toArray,List.set_cons_zero,List.set_cons_succ,i64_w,i32_w]
      rfl
     refine one_ (i:=8) (N:=some 49) #[true,true,true,true,true,true,true,true,true,true,false,false,false,false,false,false,false,false,false,false,false,false] rfl rfl (one_of HT_.out (by kernel_rfl)) (by decide) (fun K hK=>?_)
     refine goes_ Try.func18 (by kernel_rfl) rfl #[.agg #[.int .i64 (wrap64 (1 + t117)),.int .i64 (wrap64 (t118 + 1)),.int .i64 t119,.int .u32 0]] (by rfl) rfl rfl (by (try simp only [List.map_toArray,List.map_cons,List.map_nil]);first|done|rfl|(simp only [List.length_drop,List.length_take];rfl)) ?_
     with_reducible refine (layout_Config_Cells.calls (wrap64 (1 + t117)) (wrap64 (t118 + 1)) t119 0 t126 _ A30.out).mono ?_
     rintro e w39 ⟨rfl,hb⟩
     refine ⟨_,rfl,?_⟩
     have n0_:=Aside0.mk (blk_below (g:=gb120) (o:=.cells #[.int .i64 (wrap64 (1 + t117)),.int .i64 t118,.int .i64 t119,.int .u32 0] 25 (0,0)) (by (with_reducible repeat (first|refine blk_drewN ?_ _|refine blk_drew ?_|refine blk_alloc ?_ _));exact BK120.out) hb)
     have n1_:=Aside0.mk (blk_below (g:=gb121) (o:=.cells #[.int .i64 (wrap64 ((wrap64 (1 + t117)) + 1)),.int .i64 t118,.int .i64 t119,.int .u32 0] 25 (0,0)) (by (with_reducible repeat (first|refine blk_drewN ?_ _|refine blk_drew ?_|refine blk_alloc ?_ _));exact BK121.out) hb)
     have n2_:=Aside0.mk (blk_below (g:=gb122) (o:=.cells #[.int .i64 (wrap64 (1 + t117)),.int .i64 (wrap64 (t118 + 1)),.int .i64 t119,.int .u32 0] 25 (0,0)) (by (with_reducible repeat (first|refine blk_drewN ?_ _|refine blk_drew ?_|refine blk_alloc ?_ _));exact BK122.out) hb)
     have n3_:=Aside0.mk (blk_below (g:=gb123) (o:=.cells #[.int .i64 (wrap64 (1 + t117)),.int .i64 t118,.int .i64 (wrap64 (t119 + 1)),.int .u32 0] 25 (0,0)) (by (with_reducible repeat (first|refine blk_drewN ?_ _|refine blk_drew ?_|refine blk_alloc ?_ _));exact BK123.out) hb)
     have n4_:=Aside0.mk (below_step (by repeat (first|(with_reducible first|exact HB.out|apply below_alloc|apply pw_below_drewN|apply below_drew1|refine below_set ?_ GE120.out|refine below_set ?_ GE121.out|refine below_set ?_ GE122.out|refine below_set ?_ GE123.out)|exact HB.out)) hb)
     clear BK120
     clear BK121
     clear BK122
     clear BK123
     clear HB
     have BK120:=n0_
     have BK121:=n1_
     have BK122:=n2_
     have BK123:=n3_
     have HB:=n4_
     clear n0_ n1_ n2_ n3_ n4_
     (try clear hb)
     (try clear hb2)
     (try clear hk)
     (try clear hi)
     refine hK.out _ _ ⟨(blk_cell BK121.out 0).trans rfl,(blk_cell BK121.out 1).trans rfl,(blk_cell BK121.out 2).trans rfl,(blk_cell BK121.out 3).trans rfl,(blk_cell BK120.out 0).trans rfl,(blk_cell BK120.out 1).trans rfl,(blk_cell BK120.out 2).trans rfl,(blk_cell BK120.out 3).trans rfl,(blk_cell BK122.out 0).trans rfl,(blk_cell BK122.out 1).trans rfl,(blk_cell BK122.out 2).trans rfl,(blk_cell BK122.out 3).trans rfl,(blk_cell BK123.out 0).trans rfl,(blk_cell BK123.out 1).trans rfl,(blk_cell BK123.out 2).trans rfl,(blk_cell BK123.out 3).trans rfl⟩ (fun hHeld=>?_)
     clear hK K
     refine norm_ (a':=?_) ?_ ?_
     rotate_left
     ·show Act.put _ (some 49) _ = _
      simp only [Act.put,List.setIfInBounds_toArray,List.set_cons_zero,List.set_cons_succ,i64_w,i32_w]
      rfl
     refine one_ (i:=10) (N:=some 51) #[true,true,true,true,true,true,true,true,true,true,true,false,false,false,false,false,false,false,false,false,false,false] rfl rfl (one_of HT_.out (by kernel_rfl)) (by decide) (fun K hK=>?_)
     refine goes_ Try.func18 (by kernel_rfl) rfl #[.agg #[.int .i64 (wrap64 (1 + t117)),.int .i64 t118,.int .i64 t119,.int .u32 0]] (by rfl) rfl rfl (by (try simp only [List.map_toArray,List.map_cons,List.map_nil]);first|done|rfl|(simp only [List.length_drop,List.length_take];rfl)) ?_
     with_reducible refine (layout_Config_Cells.calls (wrap64 (1 + t117)) t118 t119 0 t127 _ A31.out).mono ?_
     rintro e w40 ⟨rfl,hb⟩
     refine ⟨_,rfl,?_⟩
     have n0_:=Aside0.mk (blk_below (g:=gb120) (o:=.cells #[.int .i64 (wrap64 (1 + t117)),.int .i64 t118,.int .i64 t119,.int .u32 0] 25 (0,0)) (by (with_reducible repeat (first|refine blk_drewN ?_ _|refine blk_drew ?_|refine blk_alloc ?_ _));exact BK120.out) hb)
     have n1_:=Aside0.mk (blk_below (g:=gb121) (o:=.cells #[.int .i64 (wrap64 ((wrap64 (1 + t117)) + 1)),.int .i64 t118,.int .i64 t119,.int .u32 0] 25 (0,0)) (by (with_reducible repeat (first|refine blk_drewN ?_ _|refine blk_drew ?_|refine blk_alloc ?_ _));exact BK121.out) hb)
     have n2_:=Aside0.mk (blk_below (g:=gb122) (o:=.cells #[.int .i64 (wrap64 (1 + t117)),.int .i64 (wrap64 (t118 + 1)),.int .i64 t119,.int .u32 0] 25 (0,0)) (by (with_reducible repeat (first|refine blk_drewN ?_ _|refine blk_drew ?_|refine blk_alloc ?_ _));exact BK122.out) hb)
     have n3_:=Aside0.mk (blk_below (g:=gb123) (o:=.cells #[.int .i64 (wrap64 (1 + t117)),.int .i64 t118,.int .i64 (wrap64 (t119 + 1)),.int .u32 0] 25 (0,0)) (by (with_reducible repeat (first|refine blk_drewN ?_ _|refine blk_drew ?_|refine blk_alloc ?_ _));exact BK123.out) hb)
     have n4_:=Aside0.mk (below_step (by repeat (first|(with_reducible first|exact HB.out|apply below_alloc|apply pw_below_drewN|apply below_drew1|refine below_set ?_ GE120.out|refine below_set ?_ GE121.out|refine below_set ?_ GE122.out|refine below_set ?_ GE123.out)|exact HB.out)) hb)
     clear BK120
     clear BK121
     clear BK122
     clear BK123
     clear HB
     have BK120:=n0_
     have BK121:=n1_
     have BK122:=n2_
     have BK123:=n3_
     have HB:=n4_
     clear n0_ n1_ n2_ n3_ n4_
     (try clear hb)
     (try clear hb2)
     (try clear hk)
     (try clear hi)
     refine hK.out _ _ ⟨(blk_cell BK121.out 0).trans rfl,(blk_cell BK121.out 1).trans rfl,(blk_cell BK121.out 2).trans rfl,(blk_cell BK121.out 3).trans rfl,(blk_cell BK120.out 0).trans rfl,(blk_cell BK120.out 1).trans rfl,(blk_cell BK120.out 2).trans rfl,(blk_cell BK120.out 3).trans rfl,(blk_cell BK122.out 0).trans rfl,(blk_cell BK122.out 1).trans rfl,(blk_cell BK122.out 2).trans rfl,(blk_cell BK122.out 3).trans rfl,(blk_cell BK123.out 0).trans rfl,(blk_cell BK123.out 1).trans rfl,(blk_cell BK123.out 2).trans rfl,(blk_cell BK123.out 3).trans rfl⟩ (fun hHeld=>?_)
     clear hK K
     refine norm_ (a':=?_) ?_ ?_
     rotate_left
     ·show Act.put _ (some 51) _ = _
      simp only [Act.put,List.setIfInBounds_toArray,List.set_cons_zero,List.set_cons_succ,i64_w,i32_w]
      rfl
     refine pure_ (i:=11) (N:=some 52) (v:=?_) (a':=?_) #[true,true,true,true,true,true,true,true,true,true,true,true,false,false,false,false,false,false,false,false,false,false] rfl rfl (any_of HT_.out (by kernel_rfl)) (fun _ _ _ h=>h) (Or.inl ⟨by rfl,?_⟩) ?_ ?_
     rotate_left
     ·intro w'
      go_simp
      with_reducible rfl
     rotate_left
     ·simp only [Act.put,List.setIfInBounds_toArray,List.set_cons_zero,List.set_cons_succ,i64_w,i32_w]
      rfl
     refine pure_ (i:=12) (N:=some 53) (v:=?_) (a':=?_) #[true,true,true,true,true,true,true,true,true,true,true,true,true,false,false,false,false,false,false,false,false,false] rfl rfl (any_of HT_.out (by kernel_rfl)) (fun _ _ _ h=>h) (Or.inl ⟨by rfl,?_⟩) ?_ ?_
     rotate_left
     ·intro w'
      go_simp
      with_reducible rfl
     rotate_left
     ·simp only [Act.put,List.setIfInBounds_toArray,List.set_cons_zero,List.set_cons_succ,i64_w,i32_w]
      rfl
     refine pure_ (i:=13) (N:=some 54) (v:=?_) (a':=?_) #[true,true,true,true,true,true,true,true,true,true,true,true,true,true,false,false,false,false,false,false,false,false] rfl rfl (any_of HT_.out (by kernel_rfl)) (fun _ _ _ h=>h) (Or.inl ⟨by rfl,?_⟩) ?_ ?_
     rotate_left
     ·intro w'
      go_simp
      with_reducible rfl
     rotate_left
     ·simp only [Act.put,List.setIfInBounds_toArray,List.set_cons_zero,List.set_cons_succ,i64_w,i32_w]
      rfl
     refine pure_ (i:=14) (N:=some 55) (v:=?_) (a':=?_) #[true,true,true,true,true,true,true,true,true,true,true,true,true,true,true,false,false,false,false,false,false,false] rfl rfl (any_of HT_.out (by kernel_rfl)) (fun _ _ _ h=>h) (Or.inl ⟨by rfl,?_⟩) ?_ ?_
     rotate_left
     ·intro w'
      go_simp
      with_reducible rfl
     rotate_left
     ·simp only [Act.put,List.setIfInBounds_toArray,List.set_cons_zero,List.set_cons_succ,i64_w,i32_w]
      rfl
     refine take_ (i:=15) (N:=some 56) (v:=?_) (a':=?_) #[true,true,true,true,true,true,true,true,true,true,true,true,true,true,true,true,false,false,false,false,false,false] rfl rfl (take_ofW HT_.out HW_.out (by kernel_rfl)) (fun _ _ _ h=>h) (Or.inl ⟨by rfl,?_⟩) hHeld ?_ ?_
     rotate_left
     ·rintro w' ⟨s0,s1,s2,s3,s4,s5,s6,s7,s8,s9,s10,s11,s12,s13,s14,s15⟩
      go_simp
      with_reducible rfl
     rotate_left
     ·simp only [Act.put,List.setIfInBounds_toArray,List.set_cons_zero,List.set_cons_succ,i64_w,i32_w]
      rfl
     refine take_ (i:=17) (N:=some 58) (v:=?_) (a':=?_) #[true,true,true,true,true,true,true,true,true,true,true,true,true,true,true,true,false,true,false,false,false,false] rfl rfl (take_ofW HT_.out HW_.out (by kernel_rfl)) (fun _ _ _ h=>h) (Or.inl ⟨by rfl,?_⟩) hHeld ?_ ?_
     rotate_left
     ·rintro w' ⟨s0,s1,s2,s3,s4,s5,s6,s7,s8,s9,s10,s11,s12,s13,s14,s15⟩
      go_simp
      with_reducible rfl
     rotate_left
     ·simp only [Act.put,List.setIfInBounds_toArray,List.set_cons_zero,List.set_cons_succ,i64_w,i32_w]
      rfl
     refine one_ (i:=16) (N:=some 57) #[true,true,true,true,true,true,true,true,true,true,true,true,true,true,true,true,true,true,false,false,false,false] rfl rfl (one_of HT_.out (by kernel_rfl)) (by decide) (fun K hK=>?_)
     refine goes_ Try.func18 (by kernel_rfl) rfl #[.agg #[.int .i64 (wrap64 (1 + t117)),.int .i64 t118,.int .i64 (wrap64 (t119 + 1)),.int .u32 0]] (by rfl) rfl rfl (by (try simp only [List.map_toArray,List.map_cons,List.map_nil]);first|done|rfl|(simp only [List.length_drop,List.length_take];rfl)) ?_
     with_reducible refine (layout_Config_Cells.calls (wrap64 (1 + t117)) t118 (wrap64 (t119 + 1)) 0 t128 _ A33.out).mono ?_
     rintro e w41 ⟨rfl,hb⟩
     refine ⟨_,rfl,?_⟩
     have n0_:=Aside0.mk (blk_below (g:=gb120) (o:=.cells #[.int .i64 (wrap64 (1 + t117)),.int .i64 t118,.int .i64 t119,.int .u32 0] 25 (0,0)) (by (with_reducible repeat (first|refine blk_drewN ?_ _|refine blk_drew ?_|refine blk_alloc ?_ _));exact BK120.out) hb)
     have n1_:=Aside0.mk (blk_below (g:=gb121) (o:=.cells #[.int .i64 (wrap64 ((wrap64 (1 + t117)) + 1)),.int .i64 t118,.int .i64 t119,.int .u32 0] 25 (0,0)) (by (with_reducible repeat (first|refine blk_drewN ?_ _|refine blk_drew ?_|refine blk_alloc ?_ _));exact BK121.out) hb)
     have n2_:=Aside0.mk (blk_below (g:=gb122) (o:=.cells #[.int .i64 (wrap64 (1 + t117)),.int .i64 (wrap64 (t118 + 1)),.int .i64 t119,.int .u32 0] 25 (0,0)) (by (with_reducible repeat (first|refine blk_drewN ?_ _|refine blk_drew ?_|refine blk_alloc ?_ _));exact BK122.out) hb)
     have n3_:=Aside0.mk (blk_below (g:=gb123) (o:=.cells #[.int .i64 (wrap64 (1 + t117)),.int .i64 t118,.int .i64 (wrap64 (t119 + 1)),.int .u32 0] 25 (0,0)) (by (with_reducible repeat (first|refine blk_drewN ?_ _|refine blk_drew ?_|refine blk_alloc ?_ _));exact BK123.out) hb)
     have n4_:=Aside0.mk (below_step (by repeat (first|(with_reducible first|exact HB.out|apply below_alloc|apply pw_below_drewN|apply below_drew1|refine below_set ?_ GE120.out|refine below_set ?_ GE121.out|refine below_set ?_ GE122.out|refine below_set ?_ GE123.out)|exact HB.out)) hb)
     clear BK120
     clear BK121
     clear BK122
     clear BK123
     clear HB
     have BK120:=n0_
     have BK121:=n1_
     have BK122:=n2_
     have BK123:=n3_
     have HB:=n4_
     clear n0_ n1_ n2_ n3_ n4_
     (try clear hb)
     (try clear hb2)
     (try clear hk)
     (try clear hi)
     refine hK.out _ _ ⟨(blk_cell BK121.out 0).trans rfl,(blk_cell BK121.out 1).trans rfl,(blk_cell BK121.out 2).trans rfl,(blk_cell BK121.out 3).trans rfl,(blk_cell BK120.out 0).trans rfl,(blk_cell BK120.out 1).trans rfl,(blk_cell BK120.out 2).trans rfl,(blk_cell BK120.out 3).trans rfl,(blk_cell BK122.out 0).trans rfl,(blk_cell BK122.out 1).trans rfl,(blk_cell BK122.out 2).trans rfl,(blk_cell BK122.out 3).trans rfl,(blk_cell BK123.out 0).trans rfl,(blk_cell BK123.out 1).trans rfl,(blk_cell BK123.out 2).trans rfl,(blk_cell BK123.out 3).trans rfl⟩ (fun hHeld=>?_)
     clear hK K
     refine norm_ (a':=?_) ?_ ?_
     rotate_left
     ·show Act.put _ (some 57) _ = _
      simp only [Act.put,List.setIfInBounds_toArray,List.set_cons_zero,List.set_cons_succ,i64_w,i32_w]
      rfl
     refine one_ (i:=18) (N:=some 59) #[true,true,true,true,true,true,true,true,true,true,true,true,true,true,true,true,true,true,true,false,false,false] rfl rfl (one_of HT_.out (by kernel_rfl)) (by decide) (fun K hK=>?_)
     refine goes_ Try.func18 (by kernel_rfl) rfl #[.agg #[.int .i64 (wrap64 (1 + t117)),.int .i64 t118,.int .i64 t119,.int .u32 0]] (by rfl) rfl rfl (by (try simp only [List.map_toArray,List.map_cons,List.map_nil]);first|done|rfl|(simp only [List.length_drop,List.length_take];rfl)) ?_
     with_reducible refine (layout_Config_Cells.calls (wrap64 (1 + t117)) t118 t119 0 t129 _ A34.out).mono ?_
     rintro e w42 ⟨rfl,hb⟩
     refine ⟨_,rfl,?_⟩
     have n0_:=Aside0.mk (blk_below (g:=gb120) (o:=.cells #[.int .i64 (wrap64 (1 + t117)),.int .i64 t118,.int .i64 t119,.int .u32 0] 25 (0,0)) (by (with_reducible repeat (first|refine blk_drewN ?_ _|refine blk_drew ?_|refine blk_alloc ?_ _));exact BK120.out) hb)
     have n1_:=Aside0.mk (blk_below (g:=gb121) (o:=.cells #[.int .i64 (wrap64 ((wrap64 (1 + t117)) + 1)),.int .i64 t118,.int .i64 t119,.int .u32 0] 25 (0,0)) (by (with_reducible repeat (first|refine blk_drewN ?_ _|refine blk_drew ?_|refine blk_alloc ?_ _));exact BK121.out) hb)
     have n2_:=Aside0.mk (blk_below (g:=gb122) (o:=.cells #[.int .i64 (wrap64 (1 + t117)),.int .i64 (wrap64 (t118 + 1)),.int .i64 t119,.int .u32 0] 25 (0,0)) (by (with_reducible repeat (first|refine blk_drewN ?_ _|refine blk_drew ?_|refine blk_alloc ?_ _));exact BK122.out) hb)
     have n3_:=Aside0.mk (blk_below (g:=gb123) (o:=.cells #[.int .i64 (wrap64 (1 + t117)),.int .i64 t118,.int .i64 (wrap64 (t119 + 1)),.int .u32 0] 25 (0,0)) (by (with_reducible repeat (first|refine blk_drewN ?_ _|refine blk_drew ?_|refine blk_alloc ?_ _));exact BK123.out) hb)
     have n4_:=Aside0.mk (below_step (by repeat (first|(with_reducible first|exact HB.out|apply below_alloc|apply pw_below_drewN|apply below_drew1|refine below_set ?_ GE120.out|refine below_set ?_ GE121.out|refine below_set ?_ GE122.out|refine below_set ?_ GE123.out)|exact HB.out)) hb)
     clear BK120
     clear BK121
     clear BK122
     clear BK123
     clear HB
     have BK120:=n0_
     have BK121:=n1_
     have BK122:=n2_
     have BK123:=n3_
     have HB:=n4_
     clear n0_ n1_ n2_ n3_ n4_
     (try clear hb)
     (try clear hb2)
     (try clear hk)
     (try clear hi)
     refine hK.out _ _ ⟨(blk_cell BK121.out 0).trans rfl,(blk_cell BK121.out 1).trans rfl,(blk_cell BK121.out 2).trans rfl,(blk_cell BK121.out 3).trans rfl,(blk_cell BK120.out 0).trans rfl,(blk_cell BK120.out 1).trans rfl,(blk_cell BK120.out 2).trans rfl,(blk_cell BK120.out 3).trans rfl,(blk_cell BK122.out 0).trans rfl,(blk_cell BK122.out 1).trans rfl,(blk_cell BK122.out 2).trans rfl,(blk_cell BK122.out 3).trans rfl,(blk_cell BK123.out 0).trans rfl,(blk_cell BK123.out 1).trans rfl,(blk_cell BK123.out 2).trans rfl,(blk_cell BK123.out 3).trans rfl⟩ (fun hHeld=>?_)
     clear hK K
     refine norm_ (a':=?_) ?_ ?_
     rotate_left
     ·show Act.put _ (some 59) _ = _
      simp only [Act.put,List.setIfInBounds_toArray,List.set_cons_zero,List.set_cons_succ,i64_w,i32_w]
      rfl
     refine pure_ (i:=19) (N:=some 60) (v:=?_) (a':=?_) #[true,true,true,true,true,true,true,true,true,true,true,true,true,true,true,true,true,true,true,true,false,false] rfl rfl (any_of HT_.out (by kernel_rfl)) (fun _ _ _ h=>h) (Or.inl ⟨by rfl,?_⟩) ?_ ?_
     rotate_left
     ·intro w'
      go_simp
      with_reducible rfl
     rotate_left
     ·simp only [Act.put,List.setIfInBounds_toArray,List.set_cons_zero,List.set_cons_succ,i64_w,i32_w]
      rfl
     refine pure_ (i:=20) (N:=some 61) (v:=?_) (a':=?_) #[true,true,true,true,true,true,true,true,true,true,true,true,true,true,true,true,true,true,true,true,true,false] rfl rfl (any_of HT_.out (by kernel_rfl)) (fun _ _ _ h=>h) (Or.inl ⟨by rfl,?_⟩) ?_ ?_
     rotate_left
     ·intro w'
      go_simp
      with_reducible rfl
     rotate_left
     ·simp only [Act.put,List.setIfInBounds_toArray,List.set_cons_zero,List.set_cons_succ,i64_w,i32_w]
      rfl
     refine pure_ (i:=21) (N:=some 62) (v:=?_) (a':=?_) #[true,true,true,true,true,true,true,true,true,true,true,true,true,true,true,true,true,true,true,true,true,true] rfl rfl (any_of HT_.out (by kernel_rfl)) (fun _ _ _ h=>h) (Or.inl ⟨by rfl,?_⟩) ?_ ?_
     rotate_left
     ·intro w'
      go_simp
      with_reducible rfl
     rotate_left
     ·simp only [Act.put,List.setIfInBounds_toArray,List.set_cons_zero,List.set_cons_succ,i64_w,i32_w]
      rfl
     refine done_ (done_of HT_.out (by kernel_rfl)) ?_
     try go_wp2
     go_meet
     case rel=>exact ⟨_,((t128 != (wrap64 (t129 + 1)))),(by first|rfl|(simp;done)|(simp [*];done)),H',⟨by first|omega|exact Nat.le_refl _⟩,⟨by (with_reducible repeat (first|refine blk_drewN ?_ _|refine blk_drew ?_|refine blk_alloc ?_ _));exact BK120.out⟩,⟨by (with_reducible repeat (first|refine blk_drewN ?_ _|refine blk_drew ?_|refine blk_alloc ?_ _));exact BK121.out⟩,⟨by (with_reducible repeat (first|refine blk_drewN ?_ _|refine blk_drew ?_|refine blk_alloc ?_ _));exact BK122.out⟩,⟨by (with_reducible repeat (first|refine blk_drewN ?_ _|refine blk_drew ?_|refine blk_alloc ?_ _));exact BK123.out⟩,⟨by repeat (first|(with_reducible first|exact HB.out|apply below_alloc|apply pw_below_drewN|apply below_drew1|refine below_set ?_ GE120.out|refine below_set ?_ GE121.out|refine below_set ?_ GE122.out|refine below_set ?_ GE123.out)|exact HB.out)⟩⟩
    ·rw [if_neg c32] at H
     have c32b0 : (t126 == (wrap64 (t127 + 1))) = false:=beq_eq_false_iff_ne.mpr c32
     have c32b1 : (t126 != (wrap64 (t127 + 1))) = true:=bne_iff_ne.mpr c32
     have H':=Aside0.mk H
     clear H
     try go_wp2
     have n0_ : Aside0 ((((((w22.setCell ⟨gb123,0,none⟩ (.int .i64 (wrap64 (1 + t117)))).setCell ⟨gb123,1,none⟩ (.int .i64 t118)).setCell ⟨gb123,2,none⟩ (.int .i64 t119)).setCell ⟨gb123,3,none⟩ (.int .u32 0)).setCell ⟨gb123,2,none⟩ (.int .i64 (wrap64 (t119 + 1)))).heap[gb120]? = some (.cells #[.int .i64 (wrap64 (1 + t117)),.int .i64 t118,.int .i64 t119,.int .u32 0] 25 (0,0))):=⟨by (with_reducible repeat (first|refine blk_drewN ?_ _|refine blk_drew ?_|refine blk_alloc ?_ _));refine blk_far ?_ NB120_123.out _;(with_reducible repeat (first|refine blk_drewN ?_ _|refine blk_drew ?_|refine blk_alloc ?_ _));refine blk_far ?_ NB120_123.out _;(with_reducible repeat (first|refine blk_drewN ?_ _|refine blk_drew ?_|refine blk_alloc ?_ _));refine blk_far ?_ NB120_123.out _;(with_reducible repeat (first|refine blk_drewN ?_ _|refine blk_drew ?_|refine blk_alloc ?_ _));refine blk_far ?_ NB120_123.out _;(with_reducible repeat (first|refine blk_drewN ?_ _|refine blk_drew ?_|refine blk_alloc ?_ _));refine blk_far ?_ NB120_123.out _;(with_reducible repeat (first|refine blk_drewN ?_ _|refine blk_drew ?_|refine blk_alloc ?_ _));exact BK120.out⟩
     have n1_ : Aside0 ((((((w22.setCell ⟨gb123,0,none⟩ (.int .i64 (wrap64 (1 + t117)))).setCell ⟨gb123,1,none⟩ (.int .i64 t118)).setCell ⟨gb123,2,none⟩ (.int .i64 t119)).setCell ⟨gb123,3,none⟩ (.int .u32 0)).setCell ⟨gb123,2,none⟩ (.int .i64 (wrap64 (t119 + 1)))).heap[gb121]? = some (.cells #[.int .i64 (wrap64 ((wrap64 (1 + t117)) + 1)),.int .i64 t118,.int .i64 t119,.int .u32 0] 25 (0,0))):=⟨by (with_reducible repeat (first|refine blk_drewN ?_ _|refine blk_drew ?_|refine blk_alloc ?_ _));refine blk_far ?_ NB121_123.out _;(with_reducible repeat (first|refine blk_drewN ?_ _|refine blk_drew ?_|refine blk_alloc ?_ _));refine blk_far ?_ NB121_123.out _;(with_reducible repeat (first|refine blk_drewN ?_ _|refine blk_drew ?_|refine blk_alloc ?_ _));refine blk_far ?_ NB121_123.out _;(with_reducible repeat (first|refine blk_drewN ?_ _|refine blk_drew ?_|refine blk_alloc ?_ _));refine blk_far ?_ NB121_123.out _;(with_reducible repeat (first|refine blk_drewN ?_ _|refine blk_drew ?_|refine blk_alloc ?_ _));refine blk_far ?_ NB121_123.out _;(with_reducible repeat (first|refine blk_drewN ?_ _|refine blk_drew ?_|refine blk_alloc ?_ _));exact BK121.out⟩
     have n2_ : Aside0 ((((((w22.setCell ⟨gb123,0,none⟩ (.int .i64 (wrap64 (1 + t117)))).setCell ⟨gb123,1,none⟩ (.int .i64 t118)).setCell ⟨gb123,2,none⟩ (.int .i64 t119)).setCell ⟨gb123,3,none⟩ (.int .u32 0)).setCell ⟨gb123,2,none⟩ (.int .i64 (wrap64 (t119 + 1)))).heap[gb122]? = some (.cells #[.int .i64 (wrap64 (1 + t117)),.int .i64 (wrap64 (t118 + 1)),.int .i64 t119,.int .u32 0] 25 (0,0))):=⟨by (with_reducible repeat (first|refine blk_drewN ?_ _|refine blk_drew ?_|refine blk_alloc ?_ _));refine blk_far ?_ NB122_123.out _;(with_reducible repeat (first|refine blk_drewN ?_ _|refine blk_drew ?_|refine blk_alloc ?_ _));refine blk_far ?_ NB122_123.out _;(with_reducible repeat (first|refine blk_drewN ?_ _|refine blk_drew ?_|refine blk_alloc ?_ _));refine blk_far ?_ NB122_123.out _;(with_reducible repeat (first|refine blk_drewN ?_ _|refine blk_drew ?_|refine blk_alloc ?_ _));refine blk_far ?_ NB122_123.out _;(with_reducible repeat (first|refine blk_drewN ?_ _|refine blk_drew ?_|refine blk_alloc ?_ _));refine blk_far ?_ NB122_123.out _;(with_reducible repeat (first|refine blk_drewN ?_ _|refine blk_drew ?_|refine blk_alloc ?_ _));exact BK122.out⟩
     have n3_ : Aside0 ((((((w22.setCell ⟨gb123,0,none⟩ (.int .i64 (wrap64 (1 + t117)))).setCell ⟨gb123,1,none⟩ (.int .i64 t118)).setCell ⟨gb123,2,none⟩ (.int .i64 t119)).setCell ⟨gb123,3,none⟩ (.int .u32 0)).setCell ⟨gb123,2,none⟩ (.int .i64 (wrap64 (t119 + 1)))).heap[gb123]? = some (.cells #[.int .i64 (wrap64 (1 + t117)),.int .i64 t118,.int .i64 (wrap64 (t119 + 1)),.int .u32 0] 25 (0,0))):=⟨by (with_reducible repeat (first|refine blk_drewN ?_ _|refine blk_drew ?_|refine blk_alloc ?_ _));refine blk_put (cs:=#[.int .i64 (wrap64 (1 + t117)),.int .i64 t118,.int .i64 t119,.int .u32 0]) ?_ 2 _ rfl;(with_reducible repeat (first|refine blk_drewN ?_ _|refine blk_drew ?_|refine blk_alloc ?_ _));refine blk_put (cs:=#[.int .i64 (wrap64 (1 + t117)),.int .i64 t118,.int .i64 t119,.int .u32 0]) ?_ 3 _ rfl;(with_reducible repeat (first|refine blk_drewN ?_ _|refine blk_drew ?_|refine blk_alloc ?_ _));refine blk_put (cs:=#[.int .i64 (wrap64 (1 + t117)),.int .i64 t118,.int .i64 0,.int .u32 0]) ?_ 2 _ rfl;(with_reducible repeat (first|refine blk_drewN ?_ _|refine blk_drew ?_|refine blk_alloc ?_ _));refine blk_put (cs:=#[.int .i64 (wrap64 (1 + t117)),.int .i64 0,.int .i64 0,.int .u32 0]) ?_ 1 _ rfl;(with_reducible repeat (first|refine blk_drewN ?_ _|refine blk_drew ?_|refine blk_alloc ?_ _));refine blk_put (cs:=#[.int .i64 0,.int .i64 0,.int .i64 0,.int .u32 0]) ?_ 0 _ rfl;(with_reducible repeat (first|refine blk_drewN ?_ _|refine blk_drew ?_|refine blk_alloc ?_ _));exact BK123.out⟩
     have n4_ : Aside0 (Below w.heap.size w (((((w22.setCell ⟨gb123,0,none⟩ (.int .i64 (wrap64 (1 + t117)))).setCell ⟨gb123,1,none⟩ (.int .i64 t118)).setCell ⟨gb123,2,none⟩ (.int .i64 t119)).setCell ⟨gb123,3,none⟩ (.int .u32 0)).setCell ⟨gb123,2,none⟩ (.int .i64 (wrap64 (t119 + 1))))):=⟨by repeat (first|(with_reducible first|exact HB.out|apply below_alloc|apply pw_below_drewN|apply below_drew1|refine below_set ?_ GE120.out|refine below_set ?_ GE121.out|refine below_set ?_ GE122.out|refine below_set ?_ GE123.out)|exact HB.out)⟩
     (try clear BK120)
     (try clear BK121)
     (try clear BK122)
     (try clear BK123)
     (try clear HB)
     generalize (((((w22.setCell ⟨gb123,0,none⟩ (.int .i64 (wrap64 (1 + t117)))).setCell ⟨gb123,1,none⟩ (.int .i64 t118)).setCell ⟨gb123,2,none⟩ (.int .i64 t119)).setCell ⟨gb123,3,none⟩ (.int .u32 0)).setCell ⟨gb123,2,none⟩ (.int .i64 (wrap64 (t119 + 1)))) = w43 at n0_ n1_ n2_ n3_ n4_ ⊢
     have BK120:=n0_
     have BK121:=n1_
     have BK122:=n2_
     have BK123:=n3_
     have HB:=n4_
     clear n0_ n1_ n2_ n3_ n4_
     have n0_:=Aside0.mk (blk_drew BK120.out)
     have n1_:=Aside0.mk (blk_drew BK121.out)
     have n2_:=Aside0.mk (blk_drew BK122.out)
     have n3_:=Aside0.mk (blk_drew BK123.out)
     have n4_:=Aside0.mk (below_drew1 HB.out)
     clear BK120
     clear BK121
     clear BK122
     clear BK123
     clear HB
     have BK120:=n0_
     have BK121:=n1_
     have BK122:=n2_
     have BK123:=n3_
     have HB:=n4_
     clear n0_ n1_ n2_ n3_ n4_
     refine start_ (n:=22) (S:=fun w'=>w'.cell? ⟨gb121,0,none⟩ = some (.int .i64 (wrap64 ((wrap64 (1 + t117)) + 1)))∧w'.cell? ⟨gb121,1,none⟩ = some (.int .i64 t118)∧w'.cell? ⟨gb121,2,none⟩ = some (.int .i64 t119)∧w'.cell? ⟨gb121,3,none⟩ = some (.int .u32 0)∧w'.cell? ⟨gb120,0,none⟩ = some (.int .i64 (wrap64 (1 + t117)))∧w'.cell? ⟨gb120,1,none⟩ = some (.int .i64 t118)∧w'.cell? ⟨gb120,2,none⟩ = some (.int .i64 t119)∧w'.cell? ⟨gb120,3,none⟩ = some (.int .u32 0)∧w'.cell? ⟨gb122,0,none⟩ = some (.int .i64 (wrap64 (1 + t117)))∧w'.cell? ⟨gb122,1,none⟩ = some (.int .i64 (wrap64 (t118 + 1)))∧w'.cell? ⟨gb122,2,none⟩ = some (.int .i64 t119)∧w'.cell? ⟨gb122,3,none⟩ = some (.int .u32 0)) (ds:=[]) #[false,false,false,false,false,false,false,false,false,false,false,false,false,false,false,false,false,false,false,false,false,false] (by kernel_rfl) rfl rfl ⟨(blk_cell BK121.out 0).trans rfl,(blk_cell BK121.out 1).trans rfl,(blk_cell BK121.out 2).trans rfl,(blk_cell BK121.out 3).trans rfl,(blk_cell BK120.out 0).trans rfl,(blk_cell BK120.out 1).trans rfl,(blk_cell BK120.out 2).trans rfl,(blk_cell BK120.out 3).trans rfl,(blk_cell BK122.out 0).trans rfl,(blk_cell BK122.out 1).trans rfl,(blk_cell BK122.out 2).trans rfl,(blk_cell BK122.out 3).trans rfl⟩ (fun hHeld=>?_);refine with_tabW hatstandlaw6_LayoutGrows.tab11 hatstandlaw6_LayoutGrows.bits11 (fun HT_ HW_=>?_)
     generalize w43.drew = w44 at BK120 BK121 BK122 BK123 HB hHeld ⊢
     refine take_ (i:=0) (N:=some 41) (v:=?_) (a':=?_) #[true,false,false,false,false,false,false,false,false,false,false,false,false,false,false,false,false,false,false,false,false,false] rfl rfl (take_ofW HT_.out HW_.out (by kernel_rfl)) (fun _ _ _ h=>h) (Or.inl ⟨by rfl,?_⟩) hHeld ?_ ?_
     rotate_left
     ·rintro w' ⟨s0,s1,s2,s3,s4,s5,s6,s7,s8,s9,s10,s11⟩
      go_simp
      with_reducible rfl
     rotate_left
     ·simp only [Act.put,List.setIfInBounds_toArray,List.set_cons_zero,List.set_cons_succ,i64_w,i32_w]
      rfl
     refine take_ (i:=2) (N:=some 43) (v:=?_) (a':=?_) #[true,false,true,false,false,false,false,false,false,false,false,false,false,false,false,false,false,false,false,false,false,false] rfl rfl (take_ofW HT_.out HW_.out (by kernel_rfl)) (fun _ _ _ h=>h) (Or.inl ⟨by rfl,?_⟩) hHeld ?_ ?_
     rotate_left
     ·rintro w' ⟨s0,s1,s2,s3,s4,s5,s6,s7,s8,s9,s10,s11⟩
      go_simp
      with_reducible rfl
     rotate_left
     ·simp only [Act.put,List.setIfInBounds_toArray,List.set_cons_zero,List.set_cons_succ,i64_w,i32_w]
      rfl
     refine one_ (i:=1) (N:=some 42) #[true,true,true,false,false,false,false,false,false,false,false,false,false,false,false,false,false,false,false,false,false,false] rfl rfl (one_of HT_.out (by kernel_rfl)) (by decide) (fun K hK=>?_)
     refine goes_ Try.func18 (by kernel_rfl) rfl #[.agg #[.int .i64 (wrap64 ((wrap64 (1 + t117)) + 1)),.int .i64 t118,.int .i64 t119,.int .u32 0]] (by rfl) rfl rfl (by (try simp only [List.map_toArray,List.map_cons,List.map_nil]);first|done|rfl|(simp only [List.length_drop,List.length_take];rfl)) ?_
     with_reducible refine (layout_Config_Cells.calls (wrap64 ((wrap64 (1 + t117)) + 1)) t118 t119 0 t124 _ A27.out).mono ?_
     rintro e w45 ⟨rfl,hb⟩
     refine ⟨_,rfl,?_⟩
     have n0_:=Aside0.mk (blk_below (g:=gb120) (o:=.cells #[.int .i64 (wrap64 (1 + t117)),.int .i64 t118,.int .i64 t119,.int .u32 0] 25 (0,0)) (by (with_reducible repeat (first|refine blk_drewN ?_ _|refine blk_drew ?_|refine blk_alloc ?_ _));exact BK120.out) hb)
     have n1_:=Aside0.mk (blk_below (g:=gb121) (o:=.cells #[.int .i64 (wrap64 ((wrap64 (1 + t117)) + 1)),.int .i64 t118,.int .i64 t119,.int .u32 0] 25 (0,0)) (by (with_reducible repeat (first|refine blk_drewN ?_ _|refine blk_drew ?_|refine blk_alloc ?_ _));exact BK121.out) hb)
     have n2_:=Aside0.mk (blk_below (g:=gb122) (o:=.cells #[.int .i64 (wrap64 (1 + t117)),.int .i64 (wrap64 (t118 + 1)),.int .i64 t119,.int .u32 0] 25 (0,0)) (by (with_reducible repeat (first|refine blk_drewN ?_ _|refine blk_drew ?_|refine blk_alloc ?_ _));exact BK122.out) hb)
     have n3_:=Aside0.mk (blk_below (g:=gb123) (o:=.cells #[.int .i64 (wrap64 (1 + t117)),.int .i64 t118,.int .i64 (wrap64 (t119 + 1)),.int .u32 0] 25 (0,0)) (by (with_reducible repeat (first|refine blk_drewN ?_ _|refine blk_drew ?_|refine blk_alloc ?_ _));exact BK123.out) hb)
     have n4_:=Aside0.mk (below_step (by repeat (first|(with_reducible first|exact HB.out|apply below_alloc|apply pw_below_drewN|apply below_drew1|refine below_set ?_ GE120.out|refine below_set ?_ GE121.out|refine below_set ?_ GE122.out|refine below_set ?_ GE123.out)|exact HB.out)) hb)
     clear BK120
     clear BK121
     clear BK122
     clear BK123
     clear HB
     have BK120:=n0_
     have BK121:=n1_
     have BK122:=n2_
     have BK123:=n3_
     have HB:=n4_
     clear n0_ n1_ n2_ n3_ n4_
     (try clear hb)
     (try clear hb2)
     (try clear hk)
     (try clear hi)
     refine hK.out _ _ ⟨(blk_cell BK121.out 0).trans rfl,(blk_cell BK121.out 1).trans rfl,(blk_cell BK121.out 2).trans rfl,(blk_cell BK121.out 3).trans rfl,(blk_cell BK120.out 0).trans rfl,(blk_cell BK120.out 1).trans rfl,(blk_cell BK120.out 2).trans rfl,(blk_cell BK120.out 3).trans rfl,(blk_cell BK122.out 0).trans rfl,(blk_cell BK122.out 1).trans rfl,(blk_cell BK122.out 2).trans rfl,(blk_cell BK122.out 3).trans rfl⟩ (fun hHeld=>?_)
     clear hK K
     refine norm_ (a':=?_) ?_ ?_
     rotate_left
     ·show Act.put _ (some 42) _ = _
      simp only [Act.put,List.setIfInBounds_toArray,List.set_cons_zero,List.set_cons_succ,i64_w,i32_w]
      rfl
     refine one_ (i:=3) (N:=some 44) #[true,true,true,true,false,false,false,false,false,false,false,false,false,false,false,false,false,false,false,false,false,false] rfl rfl (one_of HT_.out (by kernel_rfl)) (by decide) (fun K hK=>?_)
     refine goes_ Try.func18 (by kernel_rfl) rfl #[.agg #[.int .i64 (wrap64 (1 + t117)),.int .i64 t118,.int .i64 t119,.int .u32 0]] (by rfl) rfl rfl (by (try simp only [List.map_toArray,List.map_cons,List.map_nil]);first|done|rfl|(simp only [List.length_drop,List.length_take];rfl)) ?_
     with_reducible refine (layout_Config_Cells.calls (wrap64 (1 + t117)) t118 t119 0 t125 _ A28.out).mono ?_
     rintro e w46 ⟨rfl,hb⟩
     refine ⟨_,rfl,?_⟩
     have n0_:=Aside0.mk (blk_below (g:=gb120) (o:=.cells #[.int .i64 (wrap64 (1 + t117)),.int .i64 t118,.int .i64 t119,.int .u32 0] 25 (0,0)) (by (with_reducible repeat (first|refine blk_drewN ?_ _|refine blk_drew ?_|refine blk_alloc ?_ _));exact BK120.out) hb)
     have n1_:=Aside0.mk (blk_below (g:=gb121) (o:=.cells #[.int .i64 (wrap64 ((wrap64 (1 + t117)) + 1)),.int .i64 t118,.int .i64 t119,.int .u32 0] 25 (0,0)) (by (with_reducible repeat (first|refine blk_drewN ?_ _|refine blk_drew ?_|refine blk_alloc ?_ _));exact BK121.out) hb)
     have n2_:=Aside0.mk (blk_below (g:=gb122) (o:=.cells #[.int .i64 (wrap64 (1 + t117)),.int .i64 (wrap64 (t118 + 1)),.int .i64 t119,.int .u32 0] 25 (0,0)) (by (with_reducible repeat (first|refine blk_drewN ?_ _|refine blk_drew ?_|refine blk_alloc ?_ _));exact BK122.out) hb)
     have n3_:=Aside0.mk (blk_below (g:=gb123) (o:=.cells #[.int .i64 (wrap64 (1 + t117)),.int .i64 t118,.int .i64 (wrap64 (t119 + 1)),.int .u32 0] 25 (0,0)) (by (with_reducible repeat (first|refine blk_drewN ?_ _|refine blk_drew ?_|refine blk_alloc ?_ _));exact BK123.out) hb)
     have n4_:=Aside0.mk (below_step (by repeat (first|(with_reducible first|exact HB.out|apply below_alloc|apply pw_below_drewN|apply below_drew1|refine below_set ?_ GE120.out|refine below_set ?_ GE121.out|refine below_set ?_ GE122.out|refine below_set ?_ GE123.out)|exact HB.out)) hb)
     clear BK120
     clear BK121
     clear BK122
     clear BK123
     clear HB
     have BK120:=n0_
     have BK121:=n1_
     have BK122:=n2_
     have BK123:=n3_
     have HB:=n4_
     clear n0_ n1_ n2_ n3_ n4_
     (try clear hb)
     (try clear hb2)
     (try clear hk)
     (try clear hi)
     refine hK.out _ _ ⟨(blk_cell BK121.out 0).trans rfl,(blk_cell BK121.out 1).trans rfl,(blk_cell BK121.out 2).trans rfl,(blk_cell BK121.out 3).trans rfl,(blk_cell BK120.out 0).trans rfl,(blk_cell BK120.out 1).trans rfl,(blk_cell BK120.out 2).trans rfl,(blk_cell BK120.out 3).trans rfl,(blk_cell BK122.out 0).trans rfl,(blk_cell BK122.out 1).trans rfl,(blk_cell BK122.out 2).trans rfl,(blk_cell BK122.out 3).trans rfl⟩ (fun hHeld=>?_)
     clear hK K
     refine norm_ (a':=?_) ?_ ?_
     rotate_left
     ·show Act.put _ (some 44) _ = _
      simp only [Act.put,List.setIfInBounds_toArray,List.set_cons_zero,List.set_cons_succ,i64_w,i32_w]
      rfl
     refine pure_ (i:=4) (N:=some 45) (v:=?_) (a':=?_) #[true,true,true,true,true,false,false,false,false,false,false,false,false,false,false,false,false,false,false,false,false,false] rfl rfl (any_of HT_.out (by kernel_rfl)) (fun _ _ _ h=>h) (Or.inl ⟨by rfl,?_⟩) ?_ ?_
     rotate_left
     ·intro w'
      go_simp
      with_reducible rfl
     rotate_left
     ·simp only [Act.put,List.setIfInBounds_toArray,List.set_cons_zero,List.set_cons_succ,i64_w,i32_w]
      rfl
     refine pure_ (i:=5) (N:=some 46) (v:=?_) (a':=?_) #[true,true,true,true,true,true,false,false,false,false,false,false,false,false,false,false,false,false,false,false,false,false] rfl rfl (any_of HT_.out (by kernel_rfl)) (fun _ _ _ h=>h) (Or.inl ⟨by rfl,?_⟩) ?_ ?_
     rotate_left
     ·intro w'
      go_simp
      with_reducible rfl
     rotate_left
     ·simp only [Act.put,List.setIfInBounds_toArray,List.set_cons_zero,List.set_cons_succ,i64_w,i32_w]
      rfl
     refine pure_ (i:=6) (N:=some 47) (v:=?_) (a':=?_) #[true,true,true,true,true,true,true,false,false,false,false,false,false,false,false,false,false,false,false,false,false,false] rfl rfl (any_of HT_.out (by kernel_rfl)) (fun _ _ _ h=>h) (Or.inl ⟨by rfl,?_⟩) ?_ ?_
     rotate_left
     ·intro w'
      go_simp
      with_reducible rfl
     rotate_left
     ·simp only [Act.put,List.setIfInBounds_toArray,List.set_cons_zero,List.set_cons_succ,i64_w,i32_w]
      rfl
     refine take_ (i:=7) (N:=some 48) (v:=?_) (a':=?_) #[true,true,true,true,true,true,true,true,false,false,false,false,false,false,false,false,false,false,false,false,false,false] rfl rfl (take_ofW HT_.out HW_.out (by kernel_rfl)) (fun _ _ _ h=>h) (Or.inl ⟨by rfl,?_⟩) hHeld ?_ ?_
     rotate_left
     ·rintro w' ⟨s0,s1,s2,s3,s4,s5,s6,s7,s8,s9,s10,s11⟩
      go_simp
      with_reducible rfl
     rotate_left
     ·simp only [Act.put,List.setIfInBounds_toArray,List.set_cons_zero,List.set_cons_succ,i64_w,i32_w]
      rfl
     refine take_ (i:=9) (N:=some 50) (v:=?_) (a':=?_) #[true,true,true,true,true,true,true,true,false,true,false,false,false,false,false,false,false,false,false,false,false,false] rfl rfl (take_ofW HT_.out HW_.out (by kernel_rfl)) (fun _ _ _ h=>h) (Or.inl ⟨by rfl,?_⟩) hHeld ?_ ?_
     rotate_left
     ·rintro w' ⟨s0,s1,s2,s3,s4,s5,s6,s7,s8,s9,s10,s11⟩
      go_simp
      with_reducible rfl
     rotate_left
     ·simp only [Act.put,List.setIfInBounds_toArray,List.set_cons_zero,List.set_cons_succ,i64_w,i32_w]
      rfl
     refine one_ (i:=8) (N:=some 49) #[true,true,true,true,true,true,true,true,true,true,false,false,false,false,false,false,false,false,false,false,false,false] rfl rfl (one_of HT_.out (by kernel_rfl)) (by decide) (fun K hK=>?_)
     refine goes_ Try.func18 (by kernel_rfl) rfl #[.agg #[.int .i64 (wrap64 (1 + t117)),.int .i64 (wrap64 (t118 + 1)),.int .i64 t119,.int .u32 0]] (by rfl) rfl rfl (by (try simp only [List.map_toArray,List.map_cons,List.map_nil]);first|done|rfl|(simp only [List.length_drop,List.length_take];rfl)) ?_
     with_reducible refine (layout_Config_Cells.calls (wrap64 (1 + t117)) (wrap64 (t118 + 1)) t119 0 t126 _ A30.out).mono ?_
     rintro e w47 ⟨rfl,hb⟩
     refine ⟨_,rfl,?_⟩
     have n0_:=Aside0.mk (blk_below (g:=gb120) (o:=.cells #[.int .i64 (wrap64 (1 + t117)),.int .i64 t118,.int .i64 t119,.int .u32 0] 25 (0,0)) (by (with_reducible repeat (first|refine blk_drewN ?_ _|refine blk_drew ?_|refine blk_alloc ?_ _));exact BK120.out) hb)
     have n1_:=Aside0.mk (blk_below (g:=gb121) (o:=.cells #[.int .i64 (wrap64 ((wrap64 (1 + t117)) + 1)),.int .i64 t118,.int .i64 t119,.int .u32 0] 25 (0,0)) (by (with_reducible repeat (first|refine blk_drewN ?_ _|refine blk_drew ?_|refine blk_alloc ?_ _));exact BK121.out) hb)
     have n2_:=Aside0.mk (blk_below (g:=gb122) (o:=.cells #[.int .i64 (wrap64 (1 + t117)),.int .i64 (wrap64 (t118 + 1)),.int .i64 t119,.int .u32 0] 25 (0,0)) (by (with_reducible repeat (first|refine blk_drewN ?_ _|refine blk_drew ?_|refine blk_alloc ?_ _));exact BK122.out) hb)
     have n3_:=Aside0.mk (blk_below (g:=gb123) (o:=.cells #[.int .i64 (wrap64 (1 + t117)),.int .i64 t118,.int .i64 (wrap64 (t119 + 1)),.int .u32 0] 25 (0,0)) (by (with_reducible repeat (first|refine blk_drewN ?_ _|refine blk_drew ?_|refine blk_alloc ?_ _));exact BK123.out) hb)
     have n4_:=Aside0.mk (below_step (by repeat (first|(with_reducible first|exact HB.out|apply below_alloc|apply pw_below_drewN|apply below_drew1|refine below_set ?_ GE120.out|refine below_set ?_ GE121.out|refine below_set ?_ GE122.out|refine below_set ?_ GE123.out)|exact HB.out)) hb)
     clear BK120
     clear BK121
     clear BK122
     clear BK123
     clear HB
     have BK120:=n0_
     have BK121:=n1_
     have BK122:=n2_
     have BK123:=n3_
     have HB:=n4_
     clear n0_ n1_ n2_ n3_ n4_
     (try clear hb)
     (try clear hb2)
     (try clear hk)
     (try clear hi)
     refine hK.out _ _ ⟨(blk_cell BK121.out 0).trans rfl,(blk_cell BK121.out 1).trans rfl,(blk_cell BK121.out 2).trans rfl,(blk_cell BK121.out 3).trans rfl,(blk_cell BK120.out 0).trans rfl,(blk_cell BK120.out 1).trans rfl,(blk_cell BK120.out 2).trans rfl,(blk_cell BK120.out 3).trans rfl,(blk_cell BK122.out 0).trans rfl,(blk_cell BK122.out 1).trans rfl,(blk_cell BK122.out 2).trans rfl,(blk_cell BK122.out 3).trans rfl⟩ (fun hHeld=>?_)
     clear hK K
     refine norm_ (a':=?_) ?_ ?_
     rotate_left
     ·show Act.put _ (some 49) _ = _
      simp only [Act.put,List.setIfInBounds_toArray,List.set_cons_zero,List.set_cons_succ,i64_w,i32_w]
      rfl
     refine one_ (i:=10) (N:=some 51) #[true,true,true,true,true,true,true,true,true,true,true,false,false,false,false,false,false,false,false,false,false,false] rfl rfl (one_of HT_.out (by kernel_rfl)) (by decide) (fun K hK=>?_)
     refine goes_ Try.func18 (by kernel_rfl) rfl #[.agg #[.int .i64 (wrap64 (1 + t117)),.int .i64 t118,.int .i64 t119,.int .u32 0]] (by rfl) rfl rfl (by (try simp only [List.map_toArray,List.map_cons,List.map_nil]);first|done|rfl|(simp only [List.length_drop,List.length_take];rfl)) ?_
     with_reducible refine (layout_Config_Cells.calls (wrap64 (1 + t117)) t118 t119 0 t127 _ A31.out).mono ?_
     rintro e w48 ⟨rfl,hb⟩
     refine ⟨_,rfl,?_⟩
     have n0_:=Aside0.mk (blk_below (g:=gb120) (o:=.cells #[.int .i64 (wrap64 (1 + t117)),.int .i64 t118,.int .i64 t119,.int .u32 0] 25 (0,0)) (by (with_reducible repeat (first|refine blk_drewN ?_ _|refine blk_drew ?_|refine blk_alloc ?_ _));exact BK120.out) hb)
     have n1_:=Aside0.mk (blk_below (g:=gb121) (o:=.cells #[.int .i64 (wrap64 ((wrap64 (1 + t117)) + 1)),.int .i64 t118,.int .i64 t119,.int .u32 0] 25 (0,0)) (by (with_reducible repeat (first|refine blk_drewN ?_ _|refine blk_drew ?_|refine blk_alloc ?_ _));exact BK121.out) hb)
     have n2_:=Aside0.mk (blk_below (g:=gb122) (o:=.cells #[.int .i64 (wrap64 (1 + t117)),.int .i64 (wrap64 (t118 + 1)),.int .i64 t119,.int .u32 0] 25 (0,0)) (by (with_reducible repeat (first|refine blk_drewN ?_ _|refine blk_drew ?_|refine blk_alloc ?_ _));exact BK122.out) hb)
     have n3_:=Aside0.mk (blk_below (g:=gb123) (o:=.cells #[.int .i64 (wrap64 (1 + t117)),.int .i64 t118,.int .i64 (wrap64 (t119 + 1)),.int .u32 0] 25 (0,0)) (by (with_reducible repeat (first|refine blk_drewN ?_ _|refine blk_drew ?_|refine blk_alloc ?_ _));exact BK123.out) hb)
     have n4_:=Aside0.mk (below_step (by repeat (first|(with_reducible first|exact HB.out|apply below_alloc|apply pw_below_drewN|apply below_drew1|refine below_set ?_ GE120.out|refine below_set ?_ GE121.out|refine below_set ?_ GE122.out|refine below_set ?_ GE123.out)|exact HB.out)) hb)
     clear BK120
     clear BK121
     clear BK122
     clear BK123
     clear HB
     have BK120:=n0_
     have BK121:=n1_
     have BK122:=n2_
     have BK123:=n3_
     have HB:=n4_
     clear n0_ n1_ n2_ n3_ n4_
     (try clear hb)
     (try clear hb2)
     (try clear hk)
     (try clear hi)
     refine hK.out _ _ ⟨(blk_cell BK121.out 0).trans rfl,(blk_cell BK121.out 1).trans rfl,(blk_cell BK121.out 2).trans rfl,(blk_cell BK121.out 3).trans rfl,(blk_cell BK120.out 0).trans rfl,(blk_cell BK120.out 1).trans rfl,(blk_cell BK120.out 2).trans rfl,(blk_cell BK120.out 3).trans rfl,(blk_cell BK122.out 0).trans rfl,(blk_cell BK122.out 1).trans rfl,(blk_cell BK122.out 2).trans rfl,(blk_cell BK122.out 3).trans rfl⟩ (fun hHeld=>?_)
     clear hK K
     refine norm_ (a':=?_) ?_ ?_
     rotate_left
     ·show Act.put _ (some 51) _ = _
      simp only [Act.put,List.setIfInBounds_toArray,List.set_cons_zero,List.set_cons_succ,i64_w,i32_w]
      rfl
     refine pure_ (i:=11) (N:=some 52) (v:=?_) (a':=?_) #[true,true,true,true,true,true,true,true,true,true,true,true,false,false,false,false,false,false,false,false,false,false] rfl rfl (any_of HT_.out (by kernel_rfl)) (fun _ _ _ h=>h) (Or.inl ⟨by rfl,?_⟩) ?_ ?_
     rotate_left
     ·intro w'
      go_simp
      with_reducible rfl
     rotate_left
     ·simp only [Act.put,List.setIfInBounds_toArray,List.set_cons_zero,List.set_cons_succ,i64_w,i32_w]
      rfl
     refine pure_ (i:=12) (N:=some 53) (v:=?_) (a':=?_) #[true,true,true,true,true,true,true,true,true,true,true,true,true,false,false,false,false,false,false,false,false,false] rfl rfl (any_of HT_.out (by kernel_rfl)) (fun _ _ _ h=>h) (Or.inl ⟨by rfl,?_⟩) ?_ ?_
     rotate_left
     ·intro w'
      go_simp
      with_reducible rfl
     rotate_left
     ·simp only [Act.put,List.setIfInBounds_toArray,List.set_cons_zero,List.set_cons_succ,i64_w,i32_w]
      rfl
     refine pure_ (i:=13) (N:=some 54) (v:=?_) (a':=?_) #[true,true,true,true,true,true,true,true,true,true,true,true,true,true,false,false,false,false,false,false,false,false] rfl rfl (any_of HT_.out (by kernel_rfl)) (fun _ _ _ h=>h) (Or.inl ⟨by rfl,?_⟩) ?_ ?_
     rotate_left
     ·intro w'
      go_simp
      with_reducible rfl
     rotate_left
     ·simp only [Act.put,List.setIfInBounds_toArray,List.set_cons_zero,List.set_cons_succ,i64_w,i32_w]
      rfl
     refine pure_ (i:=14) (N:=some 55) (v:=?_) (a':=?_) #[true,true,true,true,true,true,true,true,true,true,true,true,true,true,true,false,false,false,false,false,false,false] rfl rfl (any_of HT_.out (by kernel_rfl)) (fun _ _ _ h=>h) (Or.inl ⟨by rfl,?_⟩) ?_ ?_
     rotate_left
     ·intro w'
      go_simp
      with_reducible rfl
     rotate_left
     ·simp only [Act.put,List.setIfInBounds_toArray,List.set_cons_zero,List.set_cons_succ,i64_w,i32_w]
      rfl
     refine pure_ (i:=15) (N:=some 56) (v:=undef) (a':=?_) #[true,true,true,true,true,true,true,true,true,true,true,true,true,true,true,true,false,false,false,false,false,false] rfl rfl (any_of HT_.out (by kernel_rfl)) (fun _ _ _ h=>h) (Or.inr ⟨by rfl,rfl⟩) ?_ ?_
     rotate_left
     ·simp only [Act.put,List.setIfInBounds_toArray,List.set_cons_zero,List.set_cons_succ,i64_w,i32_w]
      rfl
     refine pure_ (i:=16) (N:=some 57) (v:=undef) (a':=?_) #[true,true,true,true,true,true,true,true,true,true,true,true,true,true,true,true,true,false,false,false,false,false] rfl rfl (any_of HT_.out (by kernel_rfl)) (fun _ _ _ h=>h) (Or.inr ⟨by rfl,rfl⟩) ?_ ?_
     rotate_left
     ·simp only [Act.put,List.setIfInBounds_toArray,List.set_cons_zero,List.set_cons_succ,i64_w,i32_w]
      rfl
     refine pure_ (i:=17) (N:=some 58) (v:=undef) (a':=?_) #[true,true,true,true,true,true,true,true,true,true,true,true,true,true,true,true,true,true,false,false,false,false] rfl rfl (any_of HT_.out (by kernel_rfl)) (fun _ _ _ h=>h) (Or.inr ⟨by rfl,rfl⟩) ?_ ?_
     rotate_left
     ·simp only [Act.put,List.setIfInBounds_toArray,List.set_cons_zero,List.set_cons_succ,i64_w,i32_w]
      rfl
     refine pure_ (i:=18) (N:=some 59) (v:=undef) (a':=?_) #[true,true,true,true,true,true,true,true,true,true,true,true,true,true,true,true,true,true,true,false,false,false] rfl rfl (any_of HT_.out (by kernel_rfl)) (fun _ _ _ h=>h) (Or.inr ⟨by rfl,rfl⟩) ?_ ?_
     rotate_left
     ·simp only [Act.put,List.setIfInBounds_toArray,List.set_cons_zero,List.set_cons_succ,i64_w,i32_w]
      rfl
     refine pure_ (i:=19) (N:=some 60) (v:=undef) (a':=?_) #[true,true,true,true,true,true,true,true,true,true,true,true,true,true,true,true,true,true,true,true,false,false] rfl rfl (any_of HT_.out (by kernel_rfl)) (fun _ _ _ h=>h) (Or.inr ⟨by rfl,rfl⟩) ?_ ?_
     rotate_left
     ·simp only [Act.put,List.setIfInBounds_toArray,List.set_cons_zero,List.set_cons_succ,i64_w,i32_w]
      rfl
     refine pure_ (i:=20) (N:=some 61) (v:=undef) (a':=?_) #[true,true,true,true,true,true,true,true,true,true,true,true,true,true,true,true,true,true,true,true,true,false] rfl rfl (any_of HT_.out (by kernel_rfl)) (fun _ _ _ h=>h) (Or.inr ⟨by rfl,rfl⟩) ?_ ?_
     rotate_left
     ·simp only [Act.put,List.setIfInBounds_toArray,List.set_cons_zero,List.set_cons_succ,i64_w,i32_w]
      rfl
     refine pure_ (i:=21) (N:=some 62) (v:=?_) (a':=?_) #[true,true,true,true,true,true,true,true,true,true,true,true,true,true,true,true,true,true,true,true,true,true] rfl rfl (any_of HT_.out (by kernel_rfl)) (fun _ _ _ h=>h) (Or.inl ⟨by rfl,?_⟩) ?_ ?_
     rotate_left
     ·intro w'
      go_simp
      with_reducible rfl
     rotate_left
     ·simp only [Act.put,List.setIfInBounds_toArray,List.set_cons_zero,List.set_cons_succ,i64_w,i32_w]
      rfl
     refine done_ (done_of HT_.out (by kernel_rfl)) ?_
     try go_wp2
     go_meet
     case rel=>exact ⟨_,(true),(by first|rfl|(simp;done)|(simp [*];done)),H',⟨by first|omega|exact Nat.le_refl _⟩,⟨by (with_reducible repeat (first|refine blk_drewN ?_ _|refine blk_drew ?_|refine blk_alloc ?_ _));exact BK120.out⟩,⟨by (with_reducible repeat (first|refine blk_drewN ?_ _|refine blk_drew ?_|refine blk_alloc ?_ _));exact BK121.out⟩,⟨by (with_reducible repeat (first|refine blk_drewN ?_ _|refine blk_drew ?_|refine blk_alloc ?_ _));exact BK122.out⟩,⟨by (with_reducible repeat (first|refine blk_drewN ?_ _|refine blk_drew ?_|refine blk_alloc ?_ _));exact BK123.out⟩,⟨by repeat (first|(with_reducible first|exact HB.out|apply below_alloc|apply pw_below_drewN|apply below_drew1|refine below_set ?_ GE120.out|refine below_set ?_ GE121.out|refine below_set ?_ GE122.out|refine below_set ?_ GE123.out)|exact HB.out)⟩⟩
   ·rw [if_neg c29] at H
    have c29b0 : (t124 == (wrap64 (t125 + 2))) = false:=beq_eq_false_iff_ne.mpr c29
    have c29b1 : (t124 != (wrap64 (t125 + 2))) = true:=bne_iff_ne.mpr c29
    (first|rw [c29b0]|(simp only [i64_w,i32_w];rw [c29b0])|skip)
    have H':=Aside0.mk H
    clear H
    try go_wp2
    have n0_ : Aside0 ((((((w22.setCell ⟨gb123,0,none⟩ (.int .i64 (wrap64 (1 + t117)))).setCell ⟨gb123,1,none⟩ (.int .i64 t118)).setCell ⟨gb123,2,none⟩ (.int .i64 t119)).setCell ⟨gb123,3,none⟩ (.int .u32 0)).setCell ⟨gb123,2,none⟩ (.int .i64 (wrap64 (t119 + 1)))).heap[gb120]? = some (.cells #[.int .i64 (wrap64 (1 + t117)),.int .i64 t118,.int .i64 t119,.int .u32 0] 25 (0,0))):=⟨by (with_reducible repeat (first|refine blk_drewN ?_ _|refine blk_drew ?_|refine blk_alloc ?_ _));refine blk_far ?_ NB120_123.out _;(with_reducible repeat (first|refine blk_drewN ?_ _|refine blk_drew ?_|refine blk_alloc ?_ _));refine blk_far ?_ NB120_123.out _;(with_reducible repeat (first|refine blk_drewN ?_ _|refine blk_drew ?_|refine blk_alloc ?_ _));refine blk_far ?_ NB120_123.out _;(with_reducible repeat (first|refine blk_drewN ?_ _|refine blk_drew ?_|refine blk_alloc ?_ _));refine blk_far ?_ NB120_123.out _;(with_reducible repeat (first|refine blk_drewN ?_ _|refine blk_drew ?_|refine blk_alloc ?_ _));refine blk_far ?_ NB120_123.out _;(with_reducible repeat (first|refine blk_drewN ?_ _|refine blk_drew ?_|refine blk_alloc ?_ _));exact BK120.out⟩
    have n1_ : Aside0 ((((((w22.setCell ⟨gb123,0,none⟩ (.int .i64 (wrap64 (1 + t117)))).setCell ⟨gb123,1,none⟩ (.int .i64 t118)).setCell ⟨gb123,2,none⟩ (.int .i64 t119)).setCell ⟨gb123,3,none⟩ (.int .u32 0)).setCell ⟨gb123,2,none⟩ (.int .i64 (wrap64 (t119 + 1)))).heap[gb121]? = some (.cells #[.int .i64 (wrap64 ((wrap64 (1 + t117)) + 1)),.int .i64 t118,.int .i64 t119,.int .u32 0] 25 (0,0))):=⟨by (with_reducible repeat (first|refine blk_drewN ?_ _|refine blk_drew ?_|refine blk_alloc ?_ _));refine blk_far ?_ NB121_123.out _;(with_reducible repeat (first|refine blk_drewN ?_ _|refine blk_drew ?_|refine blk_alloc ?_ _));refine blk_far ?_ NB121_123.out _;(with_reducible repeat (first|refine blk_drewN ?_ _|refine blk_drew ?_|refine blk_alloc ?_ _));refine blk_far ?_ NB121_123.out _;(with_reducible repeat (first|refine blk_drewN ?_ _|refine blk_drew ?_|refine blk_alloc ?_ _));refine blk_far ?_ NB121_123.out _;(with_reducible repeat (first|refine blk_drewN ?_ _|refine blk_drew ?_|refine blk_alloc ?_ _));refine blk_far ?_ NB121_123.out _;(with_reducible repeat (first|refine blk_drewN ?_ _|refine blk_drew ?_|refine blk_alloc ?_ _));exact BK121.out⟩
    have n2_ : Aside0 ((((((w22.setCell ⟨gb123,0,none⟩ (.int .i64 (wrap64 (1 + t117)))).setCell ⟨gb123,1,none⟩ (.int .i64 t118)).setCell ⟨gb123,2,none⟩ (.int .i64 t119)).setCell ⟨gb123,3,none⟩ (.int .u32 0)).setCell ⟨gb123,2,none⟩ (.int .i64 (wrap64 (t119 + 1)))).heap[gb122]? = some (.cells #[.int .i64 (wrap64 (1 + t117)),.int .i64 (wrap64 (t118 + 1)),.int .i64 t119,.int .u32 0] 25 (0,0))):=⟨by (with_reducible repeat (first|refine blk_drewN ?_ _|refine blk_drew ?_|refine blk_alloc ?_ _));refine blk_far ?_ NB122_123.out _;(with_reducible repeat (first|refine blk_drewN ?_ _|refine blk_drew ?_|refine blk_alloc ?_ _));refine blk_far ?_ NB122_123.out _;(with_reducible repeat (first|refine blk_drewN ?_ _|refine blk_drew ?_|refine blk_alloc ?_ _));refine blk_far ?_ NB122_123.out _;(with_reducible repeat (first|refine blk_drewN ?_ _|refine blk_drew ?_|refine blk_alloc ?_ _));refine blk_far ?_ NB122_123.out _;(with_reducible repeat (first|refine blk_drewN ?_ _|refine blk_drew ?_|refine blk_alloc ?_ _));refine blk_far ?_ NB122_123.out _;(with_reducible repeat (first|refine blk_drewN ?_ _|refine blk_drew ?_|refine blk_alloc ?_ _));exact BK122.out⟩
    have n3_ : Aside0 ((((((w22.setCell ⟨gb123,0,none⟩ (.int .i64 (wrap64 (1 + t117)))).setCell ⟨gb123,1,none⟩ (.int .i64 t118)).setCell ⟨gb123,2,none⟩ (.int .i64 t119)).setCell ⟨gb123,3,none⟩ (.int .u32 0)).setCell ⟨gb123,2,none⟩ (.int .i64 (wrap64 (t119 + 1)))).heap[gb123]? = some (.cells #[.int .i64 (wrap64 (1 + t117)),.int .i64 t118,.int .i64 (wrap64 (t119 + 1)),.int .u32 0] 25 (0,0))):=⟨by (with_reducible repeat (first|refine blk_drewN ?_ _|refine blk_drew ?_|refine blk_alloc ?_ _));refine blk_put (cs:=#[.int .i64 (wrap64 (1 + t117)),.int .i64 t118,.int .i64 t119,.int .u32 0]) ?_ 2 _ rfl;(with_reducible repeat (first|refine blk_drewN ?_ _|refine blk_drew ?_|refine blk_alloc ?_ _));refine blk_put (cs:=#[.int .i64 (wrap64 (1 + t117)),.int .i64 t118,.int .i64 t119,.int .u32 0]) ?_ 3 _ rfl;(with_reducible repeat (first|refine blk_drewN ?_ _|refine blk_drew ?_|refine blk_alloc ?_ _));refine blk_put (cs:=#[.int .i64 (wrap64 (1 + t117)),.int .i64 t118,.int .i64 0,.int .u32 0]) ?_ 2 _ rfl;(with_reducible repeat (first|refine blk_drewN ?_ _|refine blk_drew ?_|refine blk_alloc ?_ _));refine blk_put (cs:=#[.int .i64 (wrap64 (1 + t117)),.int .i64 0,.int .i64 0,.int .u32 0]) ?_ 1 _ rfl;(with_reducible repeat (first|refine blk_drewN ?_ _|refine blk_drew ?_|refine blk_alloc ?_ _));refine blk_put (cs:=#[.int .i64 0,.int .i64 0,.int .i64 0,.int .u32 0]) ?_ 0 _ rfl;(with_reducible repeat (first|refine blk_drewN ?_ _|refine blk_drew ?_|refine blk_alloc ?_ _));exact BK123.out⟩
    have n4_ : Aside0 (Below w.heap.size w (((((w22.setCell ⟨gb123,0,none⟩ (.int .i64 (wrap64 (1 + t117)))).setCell ⟨gb123,1,none⟩ (.int .i64 t118)).setCell ⟨gb123,2,none⟩ (.int .i64 t119)).setCell ⟨gb123,3,none⟩ (.int .u32 0)).setCell ⟨gb123,2,none⟩ (.int .i64 (wrap64 (t119 + 1))))):=⟨by repeat (first|(with_reducible first|exact HB.out|apply below_alloc|apply pw_below_drewN|apply below_drew1|refine below_set ?_ GE120.out|refine below_set ?_ GE121.out|refine below_set ?_ GE122.out|refine below_set ?_ GE123.out)|exact HB.out)⟩
    (try clear BK120)
    (try clear BK121)
    (try clear BK122)
    (try clear BK123)
    (try clear HB)
    generalize (((((w22.setCell ⟨gb123,0,none⟩ (.int .i64 (wrap64 (1 + t117)))).setCell ⟨gb123,1,none⟩ (.int .i64 t118)).setCell ⟨gb123,2,none⟩ (.int .i64 t119)).setCell ⟨gb123,3,none⟩ (.int .u32 0)).setCell ⟨gb123,2,none⟩ (.int .i64 (wrap64 (t119 + 1)))) = w49 at n0_ n1_ n2_ n3_ n4_ ⊢
    have BK120:=n0_
    have BK121:=n1_
    have BK122:=n2_
    have BK123:=n3_
    have HB:=n4_
    clear n0_ n1_ n2_ n3_ n4_
    have n0_:=Aside0.mk (blk_drew BK120.out)
    have n1_:=Aside0.mk (blk_drew BK121.out)
    have n2_:=Aside0.mk (blk_drew BK122.out)
    have n3_:=Aside0.mk (blk_drew BK123.out)
    have n4_:=Aside0.mk (below_drew1 HB.out)
    clear BK120
    clear BK121
    clear BK122
    clear BK123
    clear HB
    have BK120:=n0_
    have BK121:=n1_
    have BK122:=n2_
    have BK123:=n3_
    have HB:=n4_
    clear n0_ n1_ n2_ n3_ n4_
    refine start_ (n:=22) (S:=fun w'=>w'.cell? ⟨gb121,0,none⟩ = some (.int .i64 (wrap64 ((wrap64 (1 + t117)) + 1)))∧w'.cell? ⟨gb121,1,none⟩ = some (.int .i64 t118)∧w'.cell? ⟨gb121,2,none⟩ = some (.int .i64 t119)∧w'.cell? ⟨gb121,3,none⟩ = some (.int .u32 0)∧w'.cell? ⟨gb120,0,none⟩ = some (.int .i64 (wrap64 (1 + t117)))∧w'.cell? ⟨gb120,1,none⟩ = some (.int .i64 t118)∧w'.cell? ⟨gb120,2,none⟩ = some (.int .i64 t119)∧w'.cell? ⟨gb120,3,none⟩ = some (.int .u32 0)) (ds:=[]) #[false,false,false,false,false,false,false,false,false,false,false,false,false,false,false,false,false,false,false,false,false,false] (by kernel_rfl) rfl rfl ⟨(blk_cell BK121.out 0).trans rfl,(blk_cell BK121.out 1).trans rfl,(blk_cell BK121.out 2).trans rfl,(blk_cell BK121.out 3).trans rfl,(blk_cell BK120.out 0).trans rfl,(blk_cell BK120.out 1).trans rfl,(blk_cell BK120.out 2).trans rfl,(blk_cell BK120.out 3).trans rfl⟩ (fun hHeld=>?_);refine with_tabW hatstandlaw6_LayoutGrows.tab11 hatstandlaw6_LayoutGrows.bits11 (fun HT_ HW_=>?_)
    generalize w49.drew = w50 at BK120 BK121 BK122 BK123 HB hHeld ⊢
    refine take_ (i:=0) (N:=some 41) (v:=?_) (a':=?_) #[true,false,false,false,false,false,false,false,false,false,false,false,false,false,false,false,false,false,false,false,false,false] rfl rfl (take_ofW HT_.out HW_.out (by kernel_rfl)) (fun _ _ _ h=>h) (Or.inl ⟨by rfl,?_⟩) hHeld ?_ ?_
    rotate_left
    ·rintro w' ⟨s0,s1,s2,s3,s4,s5,s6,s7⟩
     go_simp
     with_reducible rfl
    rotate_left
    ·simp only [Act.put,List.setIfInBounds_toArray,List.set_cons_zero,List.set_cons_succ,i64_w,i32_w]
     rfl
    refine take_ (i:=2) (N:=some 43) (v:=?_) (a':=?_) #[true,false,true,false,false,false,false,false,false,false,false,false,false,false,false,false,false,false,false,false,false,false] rfl rfl (take_ofW HT_.out HW_.out (by kernel_rfl)) (fun _ _ _ h=>h) (Or.inl ⟨by rfl,?_⟩) hHeld ?_ ?_
    rotate_left
    ·rintro w' ⟨s0,s1,s2,s3,s4,s5,s6,s7⟩
     go_simp
     with_reducible rfl
    rotate_left
    ·simp only [Act.put,List.setIfInBounds_toArray,List.set_cons_zero,List.set_cons_succ,i64_w,i32_w]
     rfl
    refine one_ (i:=1) (N:=some 42) #[true,true,true,false,false,false,false,false,false,false,false,false,false,false,false,false,false,false,false,false,false,false] rfl rfl (one_of HT_.out (by kernel_rfl)) (by decide) (fun K hK=>?_)
    refine goes_ Try.func18 (by kernel_rfl) rfl #[.agg #[.int .i64 (wrap64 ((wrap64 (1 + t117)) + 1)),.int .i64 t118,.int .i64 t119,.int .u32 0]] (by rfl) rfl rfl (by (try simp only [List.map_toArray,List.map_cons,List.map_nil]);first|done|rfl|(simp only [List.length_drop,List.length_take];rfl)) ?_
    with_reducible refine (layout_Config_Cells.calls (wrap64 ((wrap64 (1 + t117)) + 1)) t118 t119 0 t124 _ A27.out).mono ?_
    rintro e w51 ⟨rfl,hb⟩
    refine ⟨_,rfl,?_⟩
    have n0_:=Aside0.mk (blk_below (g:=gb120) (o:=.cells #[.int .i64 (wrap64 (1 + t117)),.int .i64 t118,.int .i64 t119,.int .u32 0] 25 (0,0)) (by (with_reducible repeat (first|refine blk_drewN ?_ _|refine blk_drew ?_|refine blk_alloc ?_ _));exact BK120.out) hb)
    have n1_:=Aside0.mk (blk_below (g:=gb121) (o:=.cells #[.int .i64 (wrap64 ((wrap64 (1 + t117)) + 1)),.int .i64 t118,.int .i64 t119,.int .u32 0] 25 (0,0)) (by (with_reducible repeat (first|refine blk_drewN ?_ _|refine blk_drew ?_|refine blk_alloc ?_ _));exact BK121.out) hb)
    have n2_:=Aside0.mk (blk_below (g:=gb122) (o:=.cells #[.int .i64 (wrap64 (1 + t117)),.int .i64 (wrap64 (t118 + 1)),.int .i64 t119,.int .u32 0] 25 (0,0)) (by (with_reducible repeat (first|refine blk_drewN ?_ _|refine blk_drew ?_|refine blk_alloc ?_ _));exact BK122.out) hb)
    have n3_:=Aside0.mk (blk_below (g:=gb123) (o:=.cells #[.int .i64 (wrap64 (1 + t117)),.int .i64 t118,.int .i64 (wrap64 (t119 + 1)),.int .u32 0] 25 (0,0)) (by (with_reducible repeat (first|refine blk_drewN ?_ _|refine blk_drew ?_|refine blk_alloc ?_ _));exact BK123.out) hb)
    have n4_:=Aside0.mk (below_step (by repeat (first|(with_reducible first|exact HB.out|apply below_alloc|apply pw_below_drewN|apply below_drew1|refine below_set ?_ GE120.out|refine below_set ?_ GE121.out|refine below_set ?_ GE122.out|refine below_set ?_ GE123.out)|exact HB.out)) hb)
    clear BK120
    clear BK121
    clear BK122
    clear BK123
    clear HB
    have BK120:=n0_
    have BK121:=n1_
    have BK122:=n2_
    have BK123:=n3_
    have HB:=n4_
    clear n0_ n1_ n2_ n3_ n4_
    (try clear hb)
    (try clear hb2)
    (try clear hk)
    (try clear hi)
    refine hK.out _ _ ⟨(blk_cell BK121.out 0).trans rfl,(blk_cell BK121.out 1).trans rfl,(blk_cell BK121.out 2).trans rfl,(blk_cell BK121.out 3).trans rfl,(blk_cell BK120.out 0).trans rfl,(blk_cell BK120.out 1).trans rfl,(blk_cell BK120.out 2).trans rfl,(blk_cell BK120.out 3).trans rfl⟩ (fun hHeld=>?_)
    clear hK K
    refine norm_ (a':=?_) ?_ ?_
    rotate_left
    ·show Act.put _ (some 42) _ = _
     simp only [Act.put,List.setIfInBounds_toArray,List.set_cons_zero,List.set_cons_succ,i64_w,i32_w]
     rfl
    refine one_ (i:=3) (N:=some 44) #[true,true,true,true,false,false,false,false,false,false,false,false,false,false,false,false,false,false,false,false,false,false] rfl rfl (one_of HT_.out (by kernel_rfl)) (by decide) (fun K hK=>?_)
    refine goes_ Try.func18 (by kernel_rfl) rfl #[.agg #[.int .i64 (wrap64 (1 + t117)),.int .i64 t118,.int .i64 t119,.int .u32 0]] (by rfl) rfl rfl (by (try simp only [List.map_toArray,List.map_cons,List.map_nil]);first|done|rfl|(simp only [List.length_drop,List.length_take];rfl)) ?_
    with_reducible refine (layout_Config_Cells.calls (wrap64 (1 + t117)) t118 t119 0 t125 _ A28.out).mono ?_
    rintro e w52 ⟨rfl,hb⟩
    refine ⟨_,rfl,?_⟩
    have n0_:=Aside0.mk (blk_below (g:=gb120) (o:=.cells #[.int .i64 (wrap64 (1 + t117)),.int .i64 t118,.int .i64 t119,.int .u32 0] 25 (0,0)) (by (with_reducible repeat (first|refine blk_drewN ?_ _|refine blk_drew ?_|refine blk_alloc ?_ _));exact BK120.out) hb)
    have n1_:=Aside0.mk (blk_below (g:=gb121) (o:=.cells #[.int .i64 (wrap64 ((wrap64 (1 + t117)) + 1)),.int .i64 t118,.int .i64 t119,.int .u32 0] 25 (0,0)) (by (with_reducible repeat (first|refine blk_drewN ?_ _|refine blk_drew ?_|refine blk_alloc ?_ _));exact BK121.out) hb)
    have n2_:=Aside0.mk (blk_below (g:=gb122) (o:=.cells #[.int .i64 (wrap64 (1 + t117)),.int .i64 (wrap64 (t118 + 1)),.int .i64 t119,.int .u32 0] 25 (0,0)) (by (with_reducible repeat (first|refine blk_drewN ?_ _|refine blk_drew ?_|refine blk_alloc ?_ _));exact BK122.out) hb)
    have n3_:=Aside0.mk (blk_below (g:=gb123) (o:=.cells #[.int .i64 (wrap64 (1 + t117)),.int .i64 t118,.int .i64 (wrap64 (t119 + 1)),.int .u32 0] 25 (0,0)) (by (with_reducible repeat (first|refine blk_drewN ?_ _|refine blk_drew ?_|refine blk_alloc ?_ _));exact BK123.out) hb)
    have n4_:=Aside0.mk (below_step (by repeat (first|(with_reducible first|exact HB.out|apply below_alloc|apply pw_below_drewN|apply below_drew1|refine below_set ?_ GE120.out|refine below_set ?_ GE121.out|refine below_set ?_ GE122.out|refine below_set ?_ GE123.out)|exact HB.out)) hb)
    clear BK120
    clear BK121
    clear BK122
    clear BK123
    clear HB
    have BK120:=n0_
    have BK121:=n1_
    have BK122:=n2_
    have BK123:=n3_
    have HB:=n4_
    clear n0_ n1_ n2_ n3_ n4_
    (try clear hb)
    (try clear hb2)
    (try clear hk)
    (try clear hi)
    refine hK.out _ _ ⟨(blk_cell BK121.out 0).trans rfl,(blk_cell BK121.out 1).trans rfl,(blk_cell BK121.out 2).trans rfl,(blk_cell BK121.out 3).trans rfl,(blk_cell BK120.out 0).trans rfl,(blk_cell BK120.out 1).trans rfl,(blk_cell BK120.out 2).trans rfl,(blk_cell BK120.out 3).trans rfl⟩ (fun hHeld=>?_)
    clear hK K
    refine norm_ (a':=?_) ?_ ?_
    rotate_left
    ·show Act.put _ (some 44) _ = _
     simp only [Act.put,List.setIfInBounds_toArray,List.set_cons_zero,List.set_cons_succ,i64_w,i32_w]
     rfl
    refine pure_ (i:=4) (N:=some 45) (v:=?_) (a':=?_) #[true,true,true,true,true,false,false,false,false,false,false,false,false,false,false,false,false,false,false,false,false,false] rfl rfl (any_of HT_.out (by kernel_rfl)) (fun _ _ _ h=>h) (Or.inl ⟨by rfl,?_⟩) ?_ ?_
    rotate_left
    ·intro w'
     go_simp
     with_reducible rfl
    rotate_left
    ·simp only [Act.put,List.setIfInBounds_toArray,List.set_cons_zero,List.set_cons_succ,i64_w,i32_w]
     rfl
    refine pure_ (i:=5) (N:=some 46) (v:=?_) (a':=?_) #[true,true,true,true,true,true,false,false,false,false,false,false,false,false,false,false,false,false,false,false,false,false] rfl rfl (any_of HT_.out (by kernel_rfl)) (fun _ _ _ h=>h) (Or.inl ⟨by rfl,?_⟩) ?_ ?_
    rotate_left
    ·intro w'
     go_simp
     with_reducible rfl
    rotate_left
    ·simp only [Act.put,List.setIfInBounds_toArray,List.set_cons_zero,List.set_cons_succ,i64_w,i32_w]
     rfl
    refine pure_ (i:=6) (N:=some 47) (v:=?_) (a':=?_) #[true,true,true,true,true,true,true,false,false,false,false,false,false,false,false,false,false,false,false,false,false,false] rfl rfl (any_of HT_.out (by kernel_rfl)) (fun _ _ _ h=>h) (Or.inl ⟨by rfl,?_⟩) ?_ ?_
    rotate_left
    ·intro w'
     go_simp
     with_reducible rfl
    rotate_left
    ·simp only [Act.put,List.setIfInBounds_toArray,List.set_cons_zero,List.set_cons_succ,i64_w,i32_w]
     rfl
    refine pure_ (i:=7) (N:=some 48) (v:=undef) (a':=?_) #[true,true,true,true,true,true,true,true,false,false,false,false,false,false,false,false,false,false,false,false,false,false] rfl rfl (any_of HT_.out (by kernel_rfl)) (fun _ _ _ h=>h) (Or.inr ⟨by rfl,rfl⟩) ?_ ?_
    rotate_left
    ·simp only [Act.put,List.setIfInBounds_toArray,List.set_cons_zero,List.set_cons_succ,i64_w,i32_w]
     rfl
    refine pure_ (i:=8) (N:=some 49) (v:=undef) (a':=?_) #[true,true,true,true,true,true,true,true,true,false,false,false,false,false,false,false,false,false,false,false,false,false] rfl rfl (any_of HT_.out (by kernel_rfl)) (fun _ _ _ h=>h) (Or.inr ⟨by rfl,rfl⟩) ?_ ?_
    rotate_left
    ·simp only [Act.put,List.setIfInBounds_toArray,List.set_cons_zero,List.set_cons_succ,i64_w,i32_w]
     rfl
    refine pure_ (i:=9) (N:=some 50) (v:=undef) (a':=?_) #[true,true,true,true,true,true,true,true,true,true,false,false,false,false,false,false,false,false,false,false,false,false] rfl rfl (any_of HT_.out (by kernel_rfl)) (fun _ _ _ h=>h) (Or.inr ⟨by rfl,rfl⟩) ?_ ?_
    rotate_left
    ·simp only [Act.put,List.setIfInBounds_toArray,List.set_cons_zero,List.set_cons_succ,i64_w,i32_w]
     rfl
    refine pure_ (i:=10) (N:=some 51) (v:=undef) (a':=?_) #[true,true,true,true,true,true,true,true,true,true,true,false,false,false,false,false,false,false,false,false,false,false] rfl rfl (any_of HT_.out (by kernel_rfl)) (fun _ _ _ h=>h) (Or.inr ⟨by rfl,rfl⟩) ?_ ?_
    rotate_left
    ·simp only [Act.put,List.setIfInBounds_toArray,List.set_cons_zero,List.set_cons_succ,i64_w,i32_w]
     rfl
    refine pure_ (i:=11) (N:=some 52) (v:=undef) (a':=?_) #[true,true,true,true,true,true,true,true,true,true,true,true,false,false,false,false,false,false,false,false,false,false] rfl rfl (any_of HT_.out (by kernel_rfl)) (fun _ _ _ h=>h) (Or.inr ⟨by rfl,rfl⟩) ?_ ?_
    rotate_left
    ·simp only [Act.put,List.setIfInBounds_toArray,List.set_cons_zero,List.set_cons_succ,i64_w,i32_w]
     rfl
    refine pure_ (i:=12) (N:=some 53) (v:=undef) (a':=?_) #[true,true,true,true,true,true,true,true,true,true,true,true,true,false,false,false,false,false,false,false,false,false] rfl rfl (any_of HT_.out (by kernel_rfl)) (fun _ _ _ h=>h) (Or.inr ⟨by rfl,rfl⟩) ?_ ?_
    rotate_left
    ·simp only [Act.put,List.setIfInBounds_toArray,List.set_cons_zero,List.set_cons_succ,i64_w,i32_w]
     rfl
    refine pure_ (i:=13) (N:=some 54) (v:=?_) (a':=?_) #[true,true,true,true,true,true,true,true,true,true,true,true,true,true,false,false,false,false,false,false,false,false] rfl rfl (any_of HT_.out (by kernel_rfl)) (fun _ _ _ h=>h) (Or.inl ⟨by rfl,?_⟩) ?_ ?_
    rotate_left
    ·intro w'
     go_simp
     with_reducible rfl
    rotate_left
    ·simp only [Act.put,List.setIfInBounds_toArray,List.set_cons_zero,List.set_cons_succ,i64_w,i32_w]
     rfl
    refine pure_ (i:=14) (N:=some 55) (v:=?_) (a':=?_) #[true,true,true,true,true,true,true,true,true,true,true,true,true,true,true,false,false,false,false,false,false,false] rfl rfl (any_of HT_.out (by kernel_rfl)) (fun _ _ _ h=>h) (Or.inl ⟨by rfl,?_⟩) ?_ ?_
    rotate_left
    ·intro w'
     go_simp
     with_reducible rfl
    rotate_left
    ·simp only [Act.put,List.setIfInBounds_toArray,List.set_cons_zero,List.set_cons_succ,i64_w,i32_w]
     rfl
    refine pure_ (i:=15) (N:=some 56) (v:=undef) (a':=?_) #[true,true,true,true,true,true,true,true,true,true,true,true,true,true,true,true,false,false,false,false,false,false] rfl rfl (any_of HT_.out (by kernel_rfl)) (fun _ _ _ h=>h) (Or.inr ⟨by rfl,rfl⟩) ?_ ?_
    rotate_left
    ·simp only [Act.put,List.setIfInBounds_toArray,List.set_cons_zero,List.set_cons_succ,i64_w,i32_w]
     rfl
    refine pure_ (i:=16) (N:=some 57) (v:=undef) (a':=?_) #[true,true,true,true,true,true,true,true,true,true,true,true,true,true,true,true,true,false,false,false,false,false] rfl rfl (any_of HT_.out (by kernel_rfl)) (fun _ _ _ h=>h) (Or.inr ⟨by rfl,rfl⟩) ?_ ?_
    rotate_left
    ·simp only [Act.put,List.setIfInBounds_toArray,List.set_cons_zero,List.set_cons_succ,i64_w,i32_w]
     rfl
    refine pure_ (i:=17) (N:=some 58) (v:=undef) (a':=?_) #[true,true,true,true,true,true,true,true,true,true,true,true,true,true,true,true,true,true,false,false,false,false] rfl rfl (any_of HT_.out (by kernel_rfl)) (fun _ _ _ h=>h) (Or.inr ⟨by rfl,rfl⟩) ?_ ?_
    rotate_left
    ·simp only [Act.put,List.setIfInBounds_toArray,List.set_cons_zero,List.set_cons_succ,i64_w,i32_w]
     rfl
    refine pure_ (i:=18) (N:=some 59) (v:=undef) (a':=?_) #[true,true,true,true,true,true,true,true,true,true,true,true,true,true,true,true,true,true,true,false,false,false] rfl rfl (any_of HT_.out (by kernel_rfl)) (fun _ _ _ h=>h) (Or.inr ⟨by rfl,rfl⟩) ?_ ?_
    rotate_left
    ·simp only [Act.put,List.setIfInBounds_toArray,List.set_cons_zero,List.set_cons_succ,i64_w,i32_w]
     rfl
    refine pure_ (i:=19) (N:=some 60) (v:=undef) (a':=?_) #[true,true,true,true,true,true,true,true,true,true,true,true,true,true,true,true,true,true,true,true,false,false] rfl rfl (any_of HT_.out (by kernel_rfl)) (fun _ _ _ h=>h) (Or.inr ⟨by rfl,rfl⟩) ?_ ?_
    rotate_left
    ·simp only [Act.put,List.setIfInBounds_toArray,List.set_cons_zero,List.set_cons_succ,i64_w,i32_w]
     rfl
    refine pure_ (i:=20) (N:=some 61) (v:=undef) (a':=?_) #[true,true,true,true,true,true,true,true,true,true,true,true,true,true,true,true,true,true,true,true,true,false] rfl rfl (any_of HT_.out (by kernel_rfl)) (fun _ _ _ h=>h) (Or.inr ⟨by rfl,rfl⟩) ?_ ?_
    rotate_left
    ·simp only [Act.put,List.setIfInBounds_toArray,List.set_cons_zero,List.set_cons_succ,i64_w,i32_w]
     rfl
    refine pure_ (i:=21) (N:=some 62) (v:=?_) (a':=?_) #[true,true,true,true,true,true,true,true,true,true,true,true,true,true,true,true,true,true,true,true,true,true] rfl rfl (any_of HT_.out (by kernel_rfl)) (fun _ _ _ h=>h) (Or.inl ⟨by rfl,?_⟩) ?_ ?_
    rotate_left
    ·intro w'
     go_simp
     with_reducible rfl
    rotate_left
    ·simp only [Act.put,List.setIfInBounds_toArray,List.set_cons_zero,List.set_cons_succ,i64_w,i32_w]
     rfl
    refine done_ (done_of HT_.out (by kernel_rfl)) ?_
    try go_wp2
    go_meet
    case rel=>exact ⟨_,(true),(by first|rfl|(simp;done)|(simp [*];done)),H',⟨by first|omega|exact Nat.le_refl _⟩,⟨by (with_reducible repeat (first|refine blk_drewN ?_ _|refine blk_drew ?_|refine blk_alloc ?_ _));exact BK120.out⟩,⟨by (with_reducible repeat (first|refine blk_drewN ?_ _|refine blk_drew ?_|refine blk_alloc ?_ _));exact BK121.out⟩,⟨by (with_reducible repeat (first|refine blk_drewN ?_ _|refine blk_drew ?_|refine blk_alloc ?_ _));exact BK122.out⟩,⟨by (with_reducible repeat (first|refine blk_drewN ?_ _|refine blk_drew ?_|refine blk_alloc ?_ _));exact BK123.out⟩,⟨by repeat (first|(with_reducible first|exact HB.out|apply below_alloc|apply pw_below_drewN|apply below_drew1|refine below_set ?_ GE120.out|refine below_set ?_ GE121.out|refine below_set ?_ GE122.out|refine below_set ?_ GE123.out)|exact HB.out)⟩⟩
  case rest =>
   clear HC9
   try clear c1
   try clear c2
   try clear p2
   try clear c3
   try clear p6
   try clear c18
   try clear c29
   try clear c29b0
   try clear c29b1
   try clear c32
   try clear c32b0
   try clear c32b1
   obtain ⟨kq,x62_8,rfl,HA,HJ8,BK120,BK121,BK122,BK123,HB⟩:=hcut
   cases kq with
  |zero=>exact absurd HA.out (by simp [hatstandlaw6_LayoutGrows.j0])
  |succ kj8 =>
    have H:=HA.out
    clear HA
    simp only [hatstandlaw6_LayoutGrows.j0] at H
    by_cases c53 : x62_8 = true
    ·subst c53
     have H1 : (some false) = some r:=by rw [if_pos rfl] at H;exact H
     clear H
     have H:=H1
     clear H1
     exact absurd ((Option.some.inj H).trans hT_) (by decide)
    ·replace c53:=Bool.eq_false_iff.mpr c53
     subst c53
     have H1 : (hatstandlaw6_LayoutGrows.l0 kj8 1 (wrap64 (1 + t117)) t118 t119 0 (wrap64 ((wrap64 (1 + t117)) + 1)) t118 t119 0 (wrap64 (1 + t117)) (wrap64 (t118 + 1)) t119 0 (wrap64 (1 + t117)) t118 (wrap64 (t119 + 1)) 0) = some r:=by rw [if_neg (show ¬ (false = true) by decide)] at H;exact H
     clear H
     have H:=H1
     clear H1
     have H':=Aside0.mk H
     clear H
     go_wp2
     go_loopg [12] kj8 (fun kq v12 w'=>∃ (x12_2 : Int),v12 = .int .u32 x12_2∧Aside0 (hatstandlaw6_LayoutGrows.l0 kq x12_2 (wrap64 (1 + t117)) t118 t119 0 (wrap64 ((wrap64 (1 + t117)) + 1)) t118 t119 0 (wrap64 (1 + t117)) (wrap64 (t118 + 1)) t119 0 (wrap64 (1 + t117)) t118 (wrap64 (t119 + 1)) 0 = some r)∧Aside0 (kq ≤ kj8)∧Aside0 (w'.heap[gb120]? = some (.cells #[.int .i64 (wrap64 (1 + t117)),.int .i64 t118,.int .i64 t119,.int .u32 0] 25 (0,0)))∧Aside0 (w'.heap[gb121]? = some (.cells #[.int .i64 (wrap64 ((wrap64 (1 + t117)) + 1)),.int .i64 t118,.int .i64 t119,.int .u32 0] 25 (0,0)))∧Aside0 (w'.heap[gb122]? = some (.cells #[.int .i64 (wrap64 (1 + t117)),.int .i64 (wrap64 (t118 + 1)),.int .i64 t119,.int .u32 0] 25 (0,0)))∧Aside0 (w'.heap[gb123]? = some (.cells #[.int .i64 (wrap64 (1 + t117)),.int .i64 t118,.int .i64 (wrap64 (t119 + 1)),.int .u32 0] 25 (0,0)))∧Aside0 (Below w.heap.size w w'))
     case atStart=>exact ⟨(1),(by first|rfl|(simp;done)|(simp [*];done)),H',⟨Nat.le_refl _⟩,⟨by (with_reducible repeat (first|refine blk_drewN ?_ _|refine blk_drew ?_|refine blk_alloc ?_ _));exact BK120.out⟩,⟨by (with_reducible repeat (first|refine blk_drewN ?_ _|refine blk_drew ?_|refine blk_alloc ?_ _));exact BK121.out⟩,⟨by (with_reducible repeat (first|refine blk_drewN ?_ _|refine blk_drew ?_|refine blk_alloc ?_ _));exact BK122.out⟩,⟨by (with_reducible repeat (first|refine blk_drewN ?_ _|refine blk_drew ?_|refine blk_alloc ?_ _));exact BK123.out⟩,⟨by repeat (first|(with_reducible first|exact HB.out|apply below_alloc|apply pw_below_drewN|apply below_drew1|refine below_set ?_ GE120.out|refine below_set ?_ GE121.out|refine below_set ?_ GE122.out|refine below_set ?_ GE123.out)|exact HB.out)⟩⟩
     case round =>
      clear H'
      try clear c1
      try clear c2
      try clear p2
      try clear c3
      try clear c5
      try clear p6
      try clear c18
      try clear c29
      try clear c29b0
      try clear c29b1
      try clear c32
      try clear c32b0
      try clear c32b1
      try clear c53
      try clear p2
      try clear p6
      obtain ⟨x12_2,rfl,HA,HK2,BK120,BK121,BK122,BK123,HB⟩:=hrel
      cases gk with
     |zero=>exact absurd HA.out (by simp [hatstandlaw6_LayoutGrows.l0])
     |succ k2 =>
       have H:=HA.out
       clear HA
       simp only [hatstandlaw6_LayoutGrows.l0] at H
       by_cases c54 : x12_2 ≤ (((wrap64 (1 + t117))) % 4294967296)
       ·rw [if_pos c54] at H
        have c54b0 : decide (x12_2 ≤ (((wrap64 (1 + t117))) % 4294967296)) = true:=decide_eq_true c54
        clear c54
        replace H:=Option.bind_eq_some_iff.mp H
        obtain ⟨t130,A550,H⟩:=H
        replace H : ((layout_Config_Next.f (wrap64 (1 + t117)) t118 t119 0 x12_2).bind fun t131=>(if t130 = t131 then ((layout_Config_Value.f (wrap64 (1 + t117)) (wrap64 (t118 + 1)) t119 0 x12_2).bind fun t132=>((layout_Config_Value.f (wrap64 (1 + t117)) t118 t119 0 x12_2).bind fun t133=>(if t132 = t133 then ((layout_Config_Next.f (wrap64 (1 + t117)) t118 (wrap64 (t119 + 1)) 0 x12_2).bind fun t134=>((layout_Config_Next.f (wrap64 (1 + t117)) t118 t119 0 x12_2).bind fun t135=>(if t134 = t135 then (hatstandlaw6_LayoutGrows.l0 k2 ((x12_2 + 1) % 4294967296) (wrap64 (1 + t117)) t118 t119 0 (wrap64 ((wrap64 (1 + t117)) + 1)) t118 t119 0 (wrap64 (1 + t117)) (wrap64 (t118 + 1)) t119 0 (wrap64 (1 + t117)) t118 (wrap64 (t119 + 1)) 0) else (some false)))) else (some false)))) else (some false))) = some r:=H
        have A55:=Aside0.mk A550
        clear A550
        replace H:=Option.bind_eq_some_iff.mp H
        obtain ⟨t131,A560,H⟩:=H
        replace H : (if t130 = t131 then ((layout_Config_Value.f (wrap64 (1 + t117)) (wrap64 (t118 + 1)) t119 0 x12_2).bind fun t132=>((layout_Config_Value.f (wrap64 (1 + t117)) t118 t119 0 x12_2).bind fun t133=>(if t132 = t133 then ((layout_Config_Next.f (wrap64 (1 + t117)) t118 (wrap64 (t119 + 1)) 0 x12_2).bind fun t134=>((layout_Config_Next.f (wrap64 (1 + t117)) t118 t119 0 x12_2).bind fun t135=>(if t134 = t135 then (hatstandlaw6_LayoutGrows.l0 k2 ((x12_2 + 1) % 4294967296) (wrap64 (1 + t117)) t118 t119 0 (wrap64 ((wrap64 (1 + t117)) + 1)) t118 t119 0 (wrap64 (1 + t117)) (wrap64 (t118 + 1)) t119 0 (wrap64 (1 + t117)) t118 (wrap64 (t119 + 1)) 0) else (some false)))) else (some false)))) else (some false)) = some r:=H
        have A56:=Aside0.mk A560
        clear A560
        by_cases c57 : t130 = t131
        ·rw [if_pos c57] at H
         have c57b0 : (t130 == t131) = true:=beq_iff_eq.mpr c57
         have c57b1 : (t130 != t131) = false:=bne_eq_false_iff_eq.mpr c57
         clear c57
         replace H:=Option.bind_eq_some_iff.mp H
         obtain ⟨t132,A580,H⟩:=H
         replace H : ((layout_Config_Value.f (wrap64 (1 + t117)) t118 t119 0 x12_2).bind fun t133=>(if t132 = t133 then ((layout_Config_Next.f (wrap64 (1 + t117)) t118 (wrap64 (t119 + 1)) 0 x12_2).bind fun t134=>((layout_Config_Next.f (wrap64 (1 + t117)) t118 t119 0 x12_2).bind fun t135=>(if t134 = t135 then (hatstandlaw6_LayoutGrows.l0 k2 ((x12_2 + 1) % 4294967296) (wrap64 (1 + t117)) t118 t119 0 (wrap64 ((wrap64 (1 + t117)) + 1)) t118 t119 0 (wrap64 (1 + t117)) (wrap64 (t118 + 1)) t119 0 (wrap64 (1 + t117)) t118 (wrap64 (t119 + 1)) 0) else (some false)))) else (some false))) = some r:=H
         have A58:=Aside0.mk A580
         clear A580
         replace H:=Option.bind_eq_some_iff.mp H
         obtain ⟨t133,A590,H⟩:=H
         replace H : (if t132 = t133 then ((layout_Config_Next.f (wrap64 (1 + t117)) t118 (wrap64 (t119 + 1)) 0 x12_2).bind fun t134=>((layout_Config_Next.f (wrap64 (1 + t117)) t118 t119 0 x12_2).bind fun t135=>(if t134 = t135 then (hatstandlaw6_LayoutGrows.l0 k2 ((x12_2 + 1) % 4294967296) (wrap64 (1 + t117)) t118 t119 0 (wrap64 ((wrap64 (1 + t117)) + 1)) t118 t119 0 (wrap64 (1 + t117)) (wrap64 (t118 + 1)) t119 0 (wrap64 (1 + t117)) t118 (wrap64 (t119 + 1)) 0) else (some false)))) else (some false)) = some r:=H
         have A59:=Aside0.mk A590
         clear A590
         by_cases c60 : t132 = t133
         ·rw [if_pos c60] at H
          have c60b0 : (t132 == t133) = true:=beq_iff_eq.mpr c60
          have c60b1 : (t132 != t133) = false:=bne_eq_false_iff_eq.mpr c60
          clear c60
          replace H:=Option.bind_eq_some_iff.mp H
          obtain ⟨t134,A610,H⟩:=H
          replace H : ((layout_Config_Next.f (wrap64 (1 + t117)) t118 t119 0 x12_2).bind fun t135=>(if t134 = t135 then (hatstandlaw6_LayoutGrows.l0 k2 ((x12_2 + 1) % 4294967296) (wrap64 (1 + t117)) t118 t119 0 (wrap64 ((wrap64 (1 + t117)) + 1)) t118 t119 0 (wrap64 (1 + t117)) (wrap64 (t118 + 1)) t119 0 (wrap64 (1 + t117)) t118 (wrap64 (t119 + 1)) 0) else (some false))) = some r:=H
          have A61:=Aside0.mk A610
          clear A610
          replace H:=Option.bind_eq_some_iff.mp H
          obtain ⟨t135,A620,H⟩:=H
          replace H : (if t134 = t135 then (hatstandlaw6_LayoutGrows.l0 k2 ((x12_2 + 1) % 4294967296) (wrap64 (1 + t117)) t118 t119 0 (wrap64 ((wrap64 (1 + t117)) + 1)) t118 t119 0 (wrap64 (1 + t117)) (wrap64 (t118 + 1)) t119 0 (wrap64 (1 + t117)) t118 (wrap64 (t119 + 1)) 0) else (some false)) = some r:=H
          have A62:=Aside0.mk A620
          clear A620
          by_cases c63 : t134 = t135
          ·rw [if_pos c63] at H
           have c63b0 : (t134 == t135) = true:=beq_iff_eq.mpr c63
           have c63b1 : (t134 != t135) = false:=bne_eq_false_iff_eq.mpr c63
           clear c63
           have H':=Aside0.mk H
           clear H
           have hnb64:=NB120_121.out
           have hnc64:=NB121_120.out
           have hnb65:=NB120_122.out
           have hnc65:=NB122_120.out
           have hnb66:=NB120_123.out
           have hnc66:=NB123_120.out
           have hcz67_0 : wr.cell? ⟨gb120,0,none⟩ = some (.int .i64 (wrap64 (1 + t117))):=(blk_cell BK120.out 0).trans rfl
           have hcz67_1 : wr.cell? ⟨gb120,1,none⟩ = some (.int .i64 t118):=(blk_cell BK120.out 1).trans rfl
           have hcz67_2 : wr.cell? ⟨gb120,2,none⟩ = some (.int .i64 t119):=(blk_cell BK120.out 2).trans rfl
           have hcz67_3 : wr.cell? ⟨gb120,3,none⟩ = some (.int .u32 0):=(blk_cell BK120.out 3).trans rfl
           have hfz67_0:=blk_frozen BK120.out 0
           have hfz67_1:=blk_frozen BK120.out 1
           have hfz67_2:=blk_frozen BK120.out 2
           have hfz67_3:=blk_frozen BK120.out 3
           try go_wp2
           have n0_:=Aside0.mk (blk_drew BK120.out)
           have n1_:=Aside0.mk (blk_drew BK121.out)
           have n2_:=Aside0.mk (blk_drew BK122.out)
           have n3_:=Aside0.mk (blk_drew BK123.out)
           have n4_:=Aside0.mk (below_drew1 HB.out)
           clear BK120
           clear BK121
           clear BK122
           clear BK123
           clear HB
           have BK120:=n0_
           have BK121:=n1_
           have BK122:=n2_
           have BK123:=n3_
           have HB:=n4_
           clear n0_ n1_ n2_ n3_ n4_
           refine start_ (n:=25) (S:=fun w'=>w'.cell? ⟨gb121,0,none⟩ = some (.int .i64 (wrap64 ((wrap64 (1 + t117)) + 1)))∧w'.cell? ⟨gb121,1,none⟩ = some (.int .i64 t118)∧w'.cell? ⟨gb121,2,none⟩ = some (.int .i64 t119)∧w'.cell? ⟨gb121,3,none⟩ = some (.int .u32 0)∧w'.cell? ⟨gb120,0,none⟩ = some (.int .i64 (wrap64 (1 + t117)))∧w'.cell? ⟨gb120,1,none⟩ = some (.int .i64 t118)∧w'.cell? ⟨gb120,2,none⟩ = some (.int .i64 t119)∧w'.cell? ⟨gb120,3,none⟩ = some (.int .u32 0)∧w'.cell? ⟨gb122,0,none⟩ = some (.int .i64 (wrap64 (1 + t117)))∧w'.cell? ⟨gb122,1,none⟩ = some (.int .i64 (wrap64 (t118 + 1)))∧w'.cell? ⟨gb122,2,none⟩ = some (.int .i64 t119)∧w'.cell? ⟨gb122,3,none⟩ = some (.int .u32 0)∧w'.cell? ⟨gb123,0,none⟩ = some (.int .i64 (wrap64 (1 + t117)))∧w'.cell? ⟨gb123,1,none⟩ = some (.int .i64 t118)∧w'.cell? ⟨gb123,2,none⟩ = some (.int .i64 (wrap64 (t119 + 1)))∧w'.cell? ⟨gb123,3,none⟩ = some (.int .u32 0)) (ds:=[]) #[false,false,false,false,false,false,false,false,false,false,false,false,false,false,false,false,false,false,false,false,false,false,false,false,false] (by kernel_rfl) rfl rfl ⟨(blk_cell BK121.out 0).trans rfl,(blk_cell BK121.out 1).trans rfl,(blk_cell BK121.out 2).trans rfl,(blk_cell BK121.out 3).trans rfl,(blk_cell BK120.out 0).trans rfl,(blk_cell BK120.out 1).trans rfl,(blk_cell BK120.out 2).trans rfl,(blk_cell BK120.out 3).trans rfl,(blk_cell BK122.out 0).trans rfl,(blk_cell BK122.out 1).trans rfl,(blk_cell BK122.out 2).trans rfl,(blk_cell BK122.out 3).trans rfl,(blk_cell BK123.out 0).trans rfl,(blk_cell BK123.out 1).trans rfl,(blk_cell BK123.out 2).trans rfl,(blk_cell BK123.out 3).trans rfl⟩ (fun hHeld=>?_);refine with_tabW hatstandlaw6_LayoutGrows.tab16 hatstandlaw6_LayoutGrows.bits16 (fun HT_ HW_=>?_)
           generalize wr.drew = w68 at BK120 BK121 BK122 BK123 HB hHeld ⊢
           refine pure_ (i:=1) (N:=some 71) (v:=?_) (a':=?_) #[false,true,false,false,false,false,false,false,false,false,false,false,false,false,false,false,false,false,false,false,false,false,false,false,false] rfl rfl (any_of HT_.out (by kernel_rfl)) (fun _ _ _ h=>h) (Or.inl ⟨by rfl,?_⟩) ?_ ?_
           rotate_left
           ·intro w'
            go_simp
            with_reducible rfl
           rotate_left
           ·simp only [Act.put,List.setIfInBounds_toArray,List.set_cons_zero,List.set_cons_succ,i64_w,i32_w]
            rfl
           refine pure_ (i:=4) (N:=some 74) (v:=?_) (a':=?_) #[false,true,false,false,true,false,false,false,false,false,false,false,false,false,false,false,false,false,false,false,false,false,false,false,false] rfl rfl (any_of HT_.out (by kernel_rfl)) (fun _ _ _ h=>h) (Or.inl ⟨by rfl,?_⟩) ?_ ?_
           rotate_left
           ·intro w'
            go_simp
            with_reducible rfl
           rotate_left
           ·simp only [Act.put,List.setIfInBounds_toArray,List.set_cons_zero,List.set_cons_succ,i64_w,i32_w]
            rfl
           refine take_ (i:=0) (N:=some 70) (v:=?_) (a':=?_) #[true,true,false,false,true,false,false,false,false,false,false,false,false,false,false,false,false,false,false,false,false,false,false,false,false] rfl rfl (take_ofW HT_.out HW_.out (by kernel_rfl)) (fun _ _ _ h=>h) (Or.inl ⟨by rfl,?_⟩) hHeld ?_ ?_
           rotate_left
           ·rintro w' ⟨s0,s1,s2,s3,s4,s5,s6,s7,s8,s9,s10,s11,s12,s13,s14,s15⟩
            go_simp
            with_reducible rfl
           rotate_left
           ·simp only [Act.put,List.setIfInBounds_toArray,List.set_cons_zero,List.set_cons_succ,i64_w,i32_w]
            rfl
           refine take_ (i:=3) (N:=some 73) (v:=?_) (a':=?_) #[true,true,false,true,true,false,false,false,false,false,false,false,false,false,false,false,false,false,false,false,false,false,false,false,false] rfl rfl (take_ofW HT_.out HW_.out (by kernel_rfl)) (fun _ _ _ h=>h) (Or.inl ⟨by rfl,?_⟩) hHeld ?_ ?_
           rotate_left
           ·rintro w' ⟨s0,s1,s2,s3,s4,s5,s6,s7,s8,s9,s10,s11,s12,s13,s14,s15⟩
            go_simp
            with_reducible rfl
           rotate_left
           ·simp only [Act.put,List.setIfInBounds_toArray,List.set_cons_zero,List.set_cons_succ,i64_w,i32_w]
            rfl
           refine one_ (i:=2) (N:=some 72) #[true,true,true,true,true,false,false,false,false,false,false,false,false,false,false,false,false,false,false,false,false,false,false,false,false] rfl rfl (one_of HT_.out (by kernel_rfl)) (by decide) (fun K hK=>?_)
           refine goes_ Try.func14 (by kernel_rfl) rfl #[.agg #[.int .i64 (wrap64 ((wrap64 (1 + t117)) + 1)),.int .i64 t118,.int .i64 t119,.int .u32 0],.int .u32 x12_2] (by rfl) rfl rfl (by (try simp only [List.map_toArray,List.map_cons,List.map_nil]);first|done|rfl|(simp only [List.length_drop,List.length_take];rfl)) ?_
           with_reducible refine (layout_Config_Next.calls (wrap64 ((wrap64 (1 + t117)) + 1)) t118 t119 0 x12_2 t130 _ A55.out).mono ?_
           rintro e w69 ⟨rfl,hb⟩
           refine ⟨_,rfl,?_⟩
           have n0_:=Aside0.mk (blk_below (g:=gb120) (o:=.cells #[.int .i64 (wrap64 (1 + t117)),.int .i64 t118,.int .i64 t119,.int .u32 0] 25 (0,0)) (by (with_reducible repeat (first|refine blk_drewN ?_ _|refine blk_drew ?_|refine blk_alloc ?_ _));exact BK120.out) hb)
           have n1_:=Aside0.mk (blk_below (g:=gb121) (o:=.cells #[.int .i64 (wrap64 ((wrap64 (1 + t117)) + 1)),.int .i64 t118,.int .i64 t119,.int .u32 0] 25 (0,0)) (by (with_reducible repeat (first|refine blk_drewN ?_ _|refine blk_drew ?_|refine blk_alloc ?_ _));exact BK121.out) hb)
           have n2_:=Aside0.mk (blk_below (g:=gb122) (o:=.cells #[.int .i64 (wrap64 (1 + t117)),.int .i64 (wrap64 (t118 + 1)),.int .i64 t119,.int .u32 0] 25 (0,0)) (by (with_reducible repeat (first|refine blk_drewN ?_ _|refine blk_drew ?_|refine blk_alloc ?_ _));exact BK122.out) hb)
           have n3_:=Aside0.mk (blk_below (g:=gb123) (o:=.cells #[.int .i64 (wrap64 (1 + t117)),.int .i64 t118,.int .i64 (wrap64 (t119 + 1)),.int .u32 0] 25 (0,0)) (by (with_reducible repeat (first|refine blk_drewN ?_ _|refine blk_drew ?_|refine blk_alloc ?_ _));exact BK123.out) hb)
           have n4_:=Aside0.mk (below_step (by repeat (first|(with_reducible first|exact HB.out|apply below_alloc|apply pw_below_drewN|apply below_drew1|refine below_set ?_ GE120.out|refine below_set ?_ GE121.out|refine below_set ?_ GE122.out|refine below_set ?_ GE123.out)|exact HB.out)) hb)
           clear BK120
           clear BK121
           clear BK122
           clear BK123
           clear HB
           have BK120:=n0_
           have BK121:=n1_
           have BK122:=n2_
           have BK123:=n3_
           have HB:=n4_
           clear n0_ n1_ n2_ n3_ n4_
           (try clear hb)
           (try clear hb2)
           (try clear hk)
           (try clear hi)
           refine hK.out _ _ ⟨(blk_cell BK121.out 0).trans rfl,(blk_cell BK121.out 1).trans rfl,(blk_cell BK121.out 2).trans rfl,(blk_cell BK121.out 3).trans rfl,(blk_cell BK120.out 0).trans rfl,(blk_cell BK120.out 1).trans rfl,(blk_cell BK120.out 2).trans rfl,(blk_cell BK120.out 3).trans rfl,(blk_cell BK122.out 0).trans rfl,(blk_cell BK122.out 1).trans rfl,(blk_cell BK122.out 2).trans rfl,(blk_cell BK122.out 3).trans rfl,(blk_cell BK123.out 0).trans rfl,(blk_cell BK123.out 1).trans rfl,(blk_cell BK123.out 2).trans rfl,(blk_cell BK123.out 3).trans rfl⟩ (fun hHeld=>?_)
           clear hK K
           refine norm_ (a':=?_) ?_ ?_
           rotate_left
           ·show Act.put _ (some 72) _ = _
            simp only [Act.put,List.setIfInBounds_toArray,List.set_cons_zero,List.set_cons_succ,i64_w,i32_w]
            rfl
           refine one_ (i:=5) (N:=some 75) #[true,true,true,true,true,true,false,false,false,false,false,false,false,false,false,false,false,false,false,false,false,false,false,false,false] rfl rfl (one_of HT_.out (by kernel_rfl)) (by decide) (fun K hK=>?_)
           refine goes_ Try.func14 (by kernel_rfl) rfl #[.agg #[.int .i64 (wrap64 (1 + t117)),.int .i64 t118,.int .i64 t119,.int .u32 0],.int .u32 x12_2] (by rfl) rfl rfl (by (try simp only [List.map_toArray,List.map_cons,List.map_nil]);first|done|rfl|(simp only [List.length_drop,List.length_take];rfl)) ?_
           with_reducible refine (layout_Config_Next.calls (wrap64 (1 + t117)) t118 t119 0 x12_2 t131 _ A56.out).mono ?_
           rintro e w70 ⟨rfl,hb⟩
           refine ⟨_,rfl,?_⟩
           have n0_:=Aside0.mk (blk_below (g:=gb120) (o:=.cells #[.int .i64 (wrap64 (1 + t117)),.int .i64 t118,.int .i64 t119,.int .u32 0] 25 (0,0)) (by (with_reducible repeat (first|refine blk_drewN ?_ _|refine blk_drew ?_|refine blk_alloc ?_ _));exact BK120.out) hb)
           have n1_:=Aside0.mk (blk_below (g:=gb121) (o:=.cells #[.int .i64 (wrap64 ((wrap64 (1 + t117)) + 1)),.int .i64 t118,.int .i64 t119,.int .u32 0] 25 (0,0)) (by (with_reducible repeat (first|refine blk_drewN ?_ _|refine blk_drew ?_|refine blk_alloc ?_ _));exact BK121.out) hb)
           have n2_:=Aside0.mk (blk_below (g:=gb122) (o:=.cells #[.int .i64 (wrap64 (1 + t117)),.int .i64 (wrap64 (t118 + 1)),.int .i64 t119,.int .u32 0] 25 (0,0)) (by (with_reducible repeat (first|refine blk_drewN ?_ _|refine blk_drew ?_|refine blk_alloc ?_ _));exact BK122.out) hb)
           have n3_:=Aside0.mk (blk_below (g:=gb123) (o:=.cells #[.int .i64 (wrap64 (1 + t117)),.int .i64 t118,.int .i64 (wrap64 (t119 + 1)),.int .u32 0] 25 (0,0)) (by (with_reducible repeat (first|refine blk_drewN ?_ _|refine blk_drew ?_|refine blk_alloc ?_ _));exact BK123.out) hb)
           have n4_:=Aside0.mk (below_step (by repeat (first|(with_reducible first|exact HB.out|apply below_alloc|apply pw_below_drewN|apply below_drew1|refine below_set ?_ GE120.out|refine below_set ?_ GE121.out|refine below_set ?_ GE122.out|refine below_set ?_ GE123.out)|exact HB.out)) hb)
           clear BK120
           clear BK121
           clear BK122
           clear BK123
           clear HB
           have BK120:=n0_
           have BK121:=n1_
           have BK122:=n2_
           have BK123:=n3_
           have HB:=n4_
           clear n0_ n1_ n2_ n3_ n4_
           (try clear hb)
           (try clear hb2)
           (try clear hk)
           (try clear hi)
           refine hK.out _ _ ⟨(blk_cell BK121.out 0).trans rfl,(blk_cell BK121.out 1).trans rfl,(blk_cell BK121.out 2).trans rfl,(blk_cell BK121.out 3).trans rfl,(blk_cell BK120.out 0).trans rfl,(blk_cell BK120.out 1).trans rfl,(blk_cell BK120.out 2).trans rfl,(blk_cell BK120.out 3).trans rfl,(blk_cell BK122.out 0).trans rfl,(blk_cell BK122.out 1).trans rfl,(blk_cell BK122.out 2).trans rfl,(blk_cell BK122.out 3).trans rfl,(blk_cell BK123.out 0).trans rfl,(blk_cell BK123.out 1).trans rfl,(blk_cell BK123.out 2).trans rfl,(blk_cell BK123.out 3).trans rfl⟩ (fun hHeld=>?_)
           clear hK K
           refine norm_ (a':=?_) ?_ ?_
           rotate_left
           ·show Act.put _ (some 75) _ = _
            simp only [Act.put,List.setIfInBounds_toArray,List.set_cons_zero,List.set_cons_succ,i64_w,i32_w]
            rfl
           refine pure_ (i:=6) (N:=some 76) (v:=?_) (a':=?_) #[true,true,true,true,true,true,true,false,false,false,false,false,false,false,false,false,false,false,false,false,false,false,false,false,false] rfl rfl (any_of HT_.out (by kernel_rfl)) (fun _ _ _ h=>h) (Or.inl ⟨by rfl,?_⟩) ?_ ?_
           rotate_left
           ·intro w'
            go_simp
            with_reducible rfl
           rotate_left
           ·simp only [Act.put,List.setIfInBounds_toArray,List.set_cons_zero,List.set_cons_succ,i64_w,i32_w]
            rfl
           refine pure_ (i:=7) (N:=some 77) (v:=?_) (a':=?_) #[true,true,true,true,true,true,true,true,false,false,false,false,false,false,false,false,false,false,false,false,false,false,false,false,false] rfl rfl (any_of HT_.out (by kernel_rfl)) (fun _ _ _ h=>h) (Or.inl ⟨by rfl,?_⟩) ?_ ?_
           rotate_left
           ·intro w'
            go_simp
            with_reducible rfl
           rotate_left
           ·simp only [Act.put,List.setIfInBounds_toArray,List.set_cons_zero,List.set_cons_succ,i64_w,i32_w]
            rfl
           refine pure_ (i:=9) (N:=some 79) (v:=?_) (a':=?_) #[true,true,true,true,true,true,true,true,false,true,false,false,false,false,false,false,false,false,false,false,false,false,false,false,false] rfl rfl (any_of HT_.out (by kernel_rfl)) (fun _ _ _ h=>h) (Or.inl ⟨by rfl,?_⟩) ?_ ?_
           rotate_left
           ·intro w'
            go_simp
            with_reducible rfl
           rotate_left
           ·simp only [Act.put,List.setIfInBounds_toArray,List.set_cons_zero,List.set_cons_succ,i64_w,i32_w]
            rfl
           refine pure_ (i:=12) (N:=some 82) (v:=?_) (a':=?_) #[true,true,true,true,true,true,true,true,false,true,false,false,true,false,false,false,false,false,false,false,false,false,false,false,false] rfl rfl (any_of HT_.out (by kernel_rfl)) (fun _ _ _ h=>h) (Or.inl ⟨by rfl,?_⟩) ?_ ?_
           rotate_left
           ·intro w'
            go_simp
            with_reducible rfl
           rotate_left
           ·simp only [Act.put,List.setIfInBounds_toArray,List.set_cons_zero,List.set_cons_succ,i64_w,i32_w]
            rfl
           refine take_ (i:=8) (N:=some 78) (v:=?_) (a':=?_) #[true,true,true,true,true,true,true,true,true,true,false,false,true,false,false,false,false,false,false,false,false,false,false,false,false] rfl rfl (take_ofW HT_.out HW_.out (by kernel_rfl)) (fun _ _ _ h=>h) (Or.inl ⟨by rfl,?_⟩) hHeld ?_ ?_
           rotate_left
           ·rintro w' ⟨s0,s1,s2,s3,s4,s5,s6,s7,s8,s9,s10,s11,s12,s13,s14,s15⟩
            go_simp
            with_reducible rfl
           rotate_left
           ·simp only [Act.put,List.setIfInBounds_toArray,List.set_cons_zero,List.set_cons_succ,i64_w,i32_w]
            rfl
           refine take_ (i:=11) (N:=some 81) (v:=?_) (a':=?_) #[true,true,true,true,true,true,true,true,true,true,false,true,true,false,false,false,false,false,false,false,false,false,false,false,false] rfl rfl (take_ofW HT_.out HW_.out (by kernel_rfl)) (fun _ _ _ h=>h) (Or.inl ⟨by rfl,?_⟩) hHeld ?_ ?_
           rotate_left
           ·rintro w' ⟨s0,s1,s2,s3,s4,s5,s6,s7,s8,s9,s10,s11,s12,s13,s14,s15⟩
            go_simp
            with_reducible rfl
           rotate_left
           ·simp only [Act.put,List.setIfInBounds_toArray,List.set_cons_zero,List.set_cons_succ,i64_w,i32_w]
            rfl
           refine one_ (i:=10) (N:=some 80) #[true,true,true,true,true,true,true,true,true,true,true,true,true,false,false,false,false,false,false,false,false,false,false,false,false] rfl rfl (one_of HT_.out (by kernel_rfl)) (by decide) (fun K hK=>?_)
           refine goes_ Try.func15 (by kernel_rfl) rfl #[.agg #[.int .i64 (wrap64 (1 + t117)),.int .i64 (wrap64 (t118 + 1)),.int .i64 t119,.int .u32 0],.int .u32 x12_2] (by rfl) rfl rfl (by (try simp only [List.map_toArray,List.map_cons,List.map_nil]);first|done|rfl|(simp only [List.length_drop,List.length_take];rfl)) ?_
           with_reducible refine (layout_Config_Value.calls (wrap64 (1 + t117)) (wrap64 (t118 + 1)) t119 0 x12_2 t132 _ A58.out).mono ?_
           rintro e w71 ⟨rfl,hb⟩
           refine ⟨_,rfl,?_⟩
           have n0_:=Aside0.mk (blk_below (g:=gb120) (o:=.cells #[.int .i64 (wrap64 (1 + t117)),.int .i64 t118,.int .i64 t119,.int .u32 0] 25 (0,0)) (by (with_reducible repeat (first|refine blk_drewN ?_ _|refine blk_drew ?_|refine blk_alloc ?_ _));exact BK120.out) hb)
           have n1_:=Aside0.mk (blk_below (g:=gb121) (o:=.cells #[.int .i64 (wrap64 ((wrap64 (1 + t117)) + 1)),.int .i64 t118,.int .i64 t119,.int .u32 0] 25 (0,0)) (by (with_reducible repeat (first|refine blk_drewN ?_ _|refine blk_drew ?_|refine blk_alloc ?_ _));exact BK121.out) hb)
           have n2_:=Aside0.mk (blk_below (g:=gb122) (o:=.cells #[.int .i64 (wrap64 (1 + t117)),.int .i64 (wrap64 (t118 + 1)),.int .i64 t119,.int .u32 0] 25 (0,0)) (by (with_reducible repeat (first|refine blk_drewN ?_ _|refine blk_drew ?_|refine blk_alloc ?_ _));exact BK122.out) hb)
           have n3_:=Aside0.mk (blk_below (g:=gb123) (o:=.cells #[.int .i64 (wrap64 (1 + t117)),.int .i64 t118,.int .i64 (wrap64 (t119 + 1)),.int .u32 0] 25 (0,0)) (by (with_reducible repeat (first|refine blk_drewN ?_ _|refine blk_drew ?_|refine blk_alloc ?_ _));exact BK123.out) hb)
           have n4_:=Aside0.mk (below_step (by repeat (first|(with_reducible first|exact HB.out|apply below_alloc|apply pw_below_drewN|apply below_drew1|refine below_set ?_ GE120.out|refine below_set ?_ GE121.out|refine below_set ?_ GE122.out|refine below_set ?_ GE123.out)|exact HB.out)) hb)
           clear BK120
           clear BK121
           clear BK122
           clear BK123
           clear HB
           have BK120:=n0_
           have BK121:=n1_
           have BK122:=n2_
           have BK123:=n3_
           have HB:=n4_
           clear n0_ n1_ n2_ n3_ n4_
           (try clear hb)
           (try clear hb2)
           (try clear hk)
           (try clear hi)
           refine hK.out _ _ ⟨(blk_cell BK121.out 0).trans rfl,(blk_cell BK121.out 1).trans rfl,(blk_cell BK121.out 2).trans rfl,(blk_cell BK121.out 3).trans rfl,(blk_cell BK120.out 0).trans rfl,(blk_cell BK120.out 1).trans rfl,(blk_cell BK120.out 2).trans rfl,(blk_cell BK120.out 3).trans rfl,(blk_cell BK122.out 0).trans rfl,(blk_cell BK122.out 1).trans rfl,(blk_cell BK122.out 2).trans rfl,(blk_cell BK122.out 3).trans rfl,(blk_cell BK123.out 0).trans rfl,(blk_cell BK123.out 1).trans rfl,(blk_cell BK123.out 2).trans rfl,(blk_cell BK123.out 3).trans rfl⟩ (fun hHeld=>?_)
           clear hK K
           refine norm_ (a':=?_) ?_ ?_
           rotate_left
           ·show Act.put _ (some 80) _ = _
            simp only [Act.put,List.setIfInBounds_toArray,List.set_cons_zero,List.set_cons_succ,i64_w,i32_w]
            rfl
           refine one_ (i:=13) (N:=some 83) #[true,true,true,true,true,true,true,true,true,true,true,true,true,true,false,false,false,false,false,false,false,false,false,false,false] rfl rfl (one_of HT_.out (by kernel_rfl)) (by decide) (fun K hK=>?_)
           refine goes_ Try.func15 (by kernel_rfl) rfl #[.agg #[.int .i64 (wrap64 (1 + t117)),.int .i64 t118,.int .i64 t119,.int .u32 0],.int .u32 x12_2] (by rfl) rfl rfl (by (try simp only [List.map_toArray,List.map_cons,List.map_nil]);first|done|rfl|(simp only [List.length_drop,List.length_take];rfl)) ?_
           with_reducible refine (layout_Config_Value.calls (wrap64 (1 + t117)) t118 t119 0 x12_2 t133 _ A59.out).mono ?_
           rintro e w72 ⟨rfl,hb⟩
           refine ⟨_,rfl,?_⟩
           have n0_:=Aside0.mk (blk_below (g:=gb120) (o:=.cells #[.int .i64 (wrap64 (1 + t117)),.int .i64 t118,.int .i64 t119,.int .u32 0] 25 (0,0)) (by (with_reducible repeat (first|refine blk_drewN ?_ _|refine blk_drew ?_|refine blk_alloc ?_ _));exact BK120.out) hb)
           have n1_:=Aside0.mk (blk_below (g:=gb121) (o:=.cells #[.int .i64 (wrap64 ((wrap64 (1 + t117)) + 1)),.int .i64 t118,.int .i64 t119,.int .u32 0] 25 (0,0)) (by (with_reducible repeat (first|refine blk_drewN ?_ _|refine blk_drew ?_|refine blk_alloc ?_ _));exact BK121.out) hb)
           have n2_:=Aside0.mk (blk_below (g:=gb122) (o:=.cells #[.int .i64 (wrap64 (1 + t117)),.int .i64 (wrap64 (t118 + 1)),.int .i64 t119,.int .u32 0] 25 (0,0)) (by (with_reducible repeat (first|refine blk_drewN ?_ _|refine blk_drew ?_|refine blk_alloc ?_ _));exact BK122.out) hb)
           have n3_:=Aside0.mk (blk_below (g:=gb123) (o:=.cells #[.int .i64 (wrap64 (1 + t117)),.int .i64 t118,.int .i64 (wrap64 (t119 + 1)),.int .u32 0] 25 (0,0)) (by (with_reducible repeat (first|refine blk_drewN ?_ _|refine blk_drew ?_|refine blk_alloc ?_ _));exact BK123.out) hb)
           have n4_:=Aside0.mk (below_step (by repeat (first|(with_reducible first|exact HB.out|apply below_alloc|apply pw_below_drewN|apply below_drew1|refine below_set ?_ GE120.out|refine below_set ?_ GE121.out|refine below_set ?_ GE122.out|refine below_set ?_ GE123.out)|exact HB.out)) hb)
           clear BK120
           clear BK121
           clear BK122
           clear BK123
           clear HB
           have BK120:=n0_
           have BK121:=n1_
           have BK122:=n2_
           have BK123:=n3_
           have HB:=n4_
           clear n0_ n1_ n2_ n3_ n4_
           (try clear hb)
           (try clear hb2)
           (try clear hk)
           (try clear hi)
           refine hK.out _ _ ⟨(blk_cell BK121.out 0).trans rfl,(blk_cell BK121.out 1).trans rfl,(blk_cell BK121.out 2).trans rfl,(blk_cell BK121.out 3).trans rfl,(blk_cell BK120.out 0).trans rfl,(blk_cell BK120.out 1).trans rfl,(blk_cell BK120.out 2).trans rfl,(blk_cell BK120.out 3).trans rfl,(blk_cell BK122.out 0).trans rfl,(blk_cell BK122.out 1).trans rfl,(blk_cell BK122.out 2).trans rfl,(blk_cell BK122.out 3).trans rfl,(blk_cell BK123.out 0).trans rfl,(blk_cell BK123.out 1).trans rfl,(blk_cell BK123.out 2).trans rfl,(blk_cell BK123.out 3).trans rfl⟩ (fun hHeld=>?_)
           clear hK K
           refine norm_ (a':=?_) ?_ ?_
           rotate_left
           ·show Act.put _ (some 83) _ = _
            simp only [Act.put,List.setIfInBounds_toArray,List.set_cons_zero,List.set_cons_succ,i64_w,i32_w]
            rfl
           refine pure_ (i:=14) (N:=some 84) (v:=?_) (a':=?_) #[true,true,true,true,true,true,true,true,true,true,true,true,true,true,true,false,false,false,false,false,false,false,false,false,false] rfl rfl (any_of HT_.out (by kernel_rfl)) (fun _ _ _ h=>h) (Or.inl ⟨by rfl,?_⟩) ?_ ?_
           rotate_left
           ·intro w'
            go_simp
            with_reducible rfl
           rotate_left
           ·simp only [Act.put,List.setIfInBounds_toArray,List.set_cons_zero,List.set_cons_succ,i64_w,i32_w]
            rfl
           refine pure_ (i:=15) (N:=some 85) (v:=?_) (a':=?_) #[true,true,true,true,true,true,true,true,true,true,true,true,true,true,true,true,false,false,false,false,false,false,false,false,false] rfl rfl (any_of HT_.out (by kernel_rfl)) (fun _ _ _ h=>h) (Or.inl ⟨by rfl,?_⟩) ?_ ?_
           rotate_left
           ·intro w'
            go_simp
            with_reducible rfl
           rotate_left
           ·simp only [Act.put,List.setIfInBounds_toArray,List.set_cons_zero,List.set_cons_succ,i64_w,i32_w]
            rfl
           refine pure_ (i:=16) (N:=some 86) (v:=?_) (a':=?_) #[true,true,true,true,true,true,true,true,true,true,true,true,true,true,true,true,true,false,false,false,false,false,false,false,false] rfl rfl (any_of HT_.out (by kernel_rfl)) (fun _ _ _ h=>h) (Or.inl ⟨by rfl,?_⟩) ?_ ?_
           rotate_left
           ·intro w'
            go_simp
            with_reducible rfl
           rotate_left
           ·simp only [Act.put,List.setIfInBounds_toArray,List.set_cons_zero,List.set_cons_succ,i64_w,i32_w]
            rfl
           refine pure_ (i:=18) (N:=some 88) (v:=?_) (a':=?_) #[true,true,true,true,true,true,true,true,true,true,true,true,true,true,true,true,true,false,true,false,false,false,false,false,false] rfl rfl (any_of HT_.out (by kernel_rfl)) (fun _ _ _ h=>h) (Or.inl ⟨by rfl,?_⟩) ?_ ?_
           rotate_left
           ·intro w'
            go_simp
            with_reducible rfl
           rotate_left
           ·simp only [Act.put,List.setIfInBounds_toArray,List.set_cons_zero,List.set_cons_succ,i64_w,i32_w]
            rfl
           refine pure_ (i:=21) (N:=some 91) (v:=?_) (a':=?_) #[true,true,true,true,true,true,true,true,true,true,true,true,true,true,true,true,true,false,true,false,false,true,false,false,false] rfl rfl (any_of HT_.out (by kernel_rfl)) (fun _ _ _ h=>h) (Or.inl ⟨by rfl,?_⟩) ?_ ?_
           rotate_left
           ·intro w'
            go_simp
            with_reducible rfl
           rotate_left
           ·simp only [Act.put,List.setIfInBounds_toArray,List.set_cons_zero,List.set_cons_succ,i64_w,i32_w]
            rfl
           refine take_ (i:=17) (N:=some 87) (v:=?_) (a':=?_) #[true,true,true,true,true,true,true,true,true,true,true,true,true,true,true,true,true,true,true,false,false,true,false,false,false] rfl rfl (take_ofW HT_.out HW_.out (by kernel_rfl)) (fun _ _ _ h=>h) (Or.inl ⟨by rfl,?_⟩) hHeld ?_ ?_
           rotate_left
           ·rintro w' ⟨s0,s1,s2,s3,s4,s5,s6,s7,s8,s9,s10,s11,s12,s13,s14,s15⟩
            go_simp
            with_reducible rfl
           rotate_left
           ·simp only [Act.put,List.setIfInBounds_toArray,List.set_cons_zero,List.set_cons_succ,i64_w,i32_w]
            rfl
           refine take_ (i:=20) (N:=some 90) (v:=?_) (a':=?_) #[true,true,true,true,true,true,true,true,true,true,true,true,true,true,true,true,true,true,true,false,true,true,false,false,false] rfl rfl (take_ofW HT_.out HW_.out (by kernel_rfl)) (fun _ _ _ h=>h) (Or.inl ⟨by rfl,?_⟩) hHeld ?_ ?_
           rotate_left
           ·rintro w' ⟨s0,s1,s2,s3,s4,s5,s6,s7,s8,s9,s10,s11,s12,s13,s14,s15⟩
            go_simp
            with_reducible rfl
           rotate_left
           ·simp only [Act.put,List.setIfInBounds_toArray,List.set_cons_zero,List.set_cons_succ,i64_w,i32_w]
            rfl
           refine one_ (i:=19) (N:=some 89) #[true,true,true,true,true,true,true,true,true,true,true,true,true,true,true,true,true,true,true,true,true,true,false,false,false] rfl rfl (one_of HT_.out (by kernel_rfl)) (by decide) (fun K hK=>?_)
           refine goes_ Try.func14 (by kernel_rfl) rfl #[.agg #[.int .i64 (wrap64 (1 + t117)),.int .i64 t118,.int .i64 (wrap64 (t119 + 1)),.int .u32 0],.int .u32 x12_2] (by rfl) rfl rfl (by (try simp only [List.map_toArray,List.map_cons,List.map_nil]);first|done|rfl|(simp only [List.length_drop,List.length_take];rfl)) ?_
           with_reducible refine (layout_Config_Next.calls (wrap64 (1 + t117)) t118 (wrap64 (t119 + 1)) 0 x12_2 t134 _ A61.out).mono ?_
           rintro e w73 ⟨rfl,hb⟩
           refine ⟨_,rfl,?_⟩
           have n0_:=Aside0.mk (blk_below (g:=gb120) (o:=.cells #[.int .i64 (wrap64 (1 + t117)),.int .i64 t118,.int .i64 t119,.int .u32 0] 25 (0,0)) (by (with_reducible repeat (first|refine blk_drewN ?_ _|refine blk_drew ?_|refine blk_alloc ?_ _));exact BK120.out) hb)
           have n1_:=Aside0.mk (blk_below (g:=gb121) (o:=.cells #[.int .i64 (wrap64 ((wrap64 (1 + t117)) + 1)),.int .i64 t118,.int .i64 t119,.int .u32 0] 25 (0,0)) (by (with_reducible repeat (first|refine blk_drewN ?_ _|refine blk_drew ?_|refine blk_alloc ?_ _));exact BK121.out) hb)
           have n2_:=Aside0.mk (blk_below (g:=gb122) (o:=.cells #[.int .i64 (wrap64 (1 + t117)),.int .i64 (wrap64 (t118 + 1)),.int .i64 t119,.int .u32 0] 25 (0,0)) (by (with_reducible repeat (first|refine blk_drewN ?_ _|refine blk_drew ?_|refine blk_alloc ?_ _));exact BK122.out) hb)
           have n3_:=Aside0.mk (blk_below (g:=gb123) (o:=.cells #[.int .i64 (wrap64 (1 + t117)),.int .i64 t118,.int .i64 (wrap64 (t119 + 1)),.int .u32 0] 25 (0,0)) (by (with_reducible repeat (first|refine blk_drewN ?_ _|refine blk_drew ?_|refine blk_alloc ?_ _));exact BK123.out) hb)
           have n4_:=Aside0.mk (below_step (by repeat (first|(with_reducible first|exact HB.out|apply below_alloc|apply pw_below_drewN|apply below_drew1|refine below_set ?_ GE120.out|refine below_set ?_ GE121.out|refine below_set ?_ GE122.out|refine below_set ?_ GE123.out)|exact HB.out)) hb)
           clear BK120
           clear BK121
           clear BK122
           clear BK123
           clear HB
           have BK120:=n0_
           have BK121:=n1_
           have BK122:=n2_
           have BK123:=n3_
           have HB:=n4_
           clear n0_ n1_ n2_ n3_ n4_
           (try clear hb)
           (try clear hb2)
           (try clear hk)
           (try clear hi)
           refine hK.out _ _ ⟨(blk_cell BK121.out 0).trans rfl,(blk_cell BK121.out 1).trans rfl,(blk_cell BK121.out 2).trans rfl,(blk_cell BK121.out 3).trans rfl,(blk_cell BK120.out 0).trans rfl,(blk_cell BK120.out 1).trans rfl,(blk_cell BK120.out 2).trans rfl,(blk_cell BK120.out 3).trans rfl,(blk_cell BK122.out 0).trans rfl,(blk_cell BK122.out 1).trans rfl,(blk_cell BK122.out 2).trans rfl,(blk_cell BK122.out 3).trans rfl,(blk_cell BK123.out 0).trans rfl,(blk_cell BK123.out 1).trans rfl,(blk_cell BK123.out 2).trans rfl,(blk_cell BK123.out 3).trans rfl⟩ (fun hHeld=>?_)
           clear hK K
           refine norm_ (a':=?_) ?_ ?_
           rotate_left
           ·show Act.put _ (some 89) _ = _
            simp only [Act.put,List.setIfInBounds_toArray,List.set_cons_zero,List.set_cons_succ,i64_w,i32_w]
            rfl
           refine one_ (i:=22) (N:=some 92) #[true,true,true,true,true,true,true,true,true,true,true,true,true,true,true,true,true,true,true,true,true,true,true,false,false] rfl rfl (one_of HT_.out (by kernel_rfl)) (by decide) (fun K hK=>?_)
           refine goes_ Try.func14 (by kernel_rfl) rfl #[.agg #[.int .i64 (wrap64 (1 + t117)),.int .i64 t118,.int .i64 t119,.int .u32 0],.int .u32 x12_2] (by rfl) rfl rfl (by (try simp only [List.map_toArray,List.map_cons,List.map_nil]);first|done|rfl|(simp only [List.length_drop,List.length_take];rfl)) ?_
           with_reducible refine (layout_Config_Next.calls (wrap64 (1 + t117)) t118 t119 0 x12_2 t135 _ A62.out).mono ?_
           rintro e w74 ⟨rfl,hb⟩
           refine ⟨_,rfl,?_⟩
           have n0_:=Aside0.mk (blk_below (g:=gb120) (o:=.cells #[.int .i64 (wrap64 (1 + t117)),.int .i64 t118,.int .i64 t119,.int .u32 0] 25 (0,0)) (by (with_reducible repeat (first|refine blk_drewN ?_ _|refine blk_drew ?_|refine blk_alloc ?_ _));exact BK120.out) hb)
           have n1_:=Aside0.mk (blk_below (g:=gb121) (o:=.cells #[.int .i64 (wrap64 ((wrap64 (1 + t117)) + 1)),.int .i64 t118,.int .i64 t119,.int .u32 0] 25 (0,0)) (by (with_reducible repeat (first|refine blk_drewN ?_ _|refine blk_drew ?_|refine blk_alloc ?_ _));exact BK121.out) hb)
           have n2_:=Aside0.mk (blk_below (g:=gb122) (o:=.cells #[.int .i64 (wrap64 (1 + t117)),.int .i64 (wrap64 (t118 + 1)),.int .i64 t119,.int .u32 0] 25 (0,0)) (by (with_reducible repeat (first|refine blk_drewN ?_ _|refine blk_drew ?_|refine blk_alloc ?_ _));exact BK122.out) hb)
           have n3_:=Aside0.mk (blk_below (g:=gb123) (o:=.cells #[.int .i64 (wrap64 (1 + t117)),.int .i64 t118,.int .i64 (wrap64 (t119 + 1)),.int .u32 0] 25 (0,0)) (by (with_reducible repeat (first|refine blk_drewN ?_ _|refine blk_drew ?_|refine blk_alloc ?_ _));exact BK123.out) hb)
           have n4_:=Aside0.mk (below_step (by repeat (first|(with_reducible first|exact HB.out|apply below_alloc|apply pw_below_drewN|apply below_drew1|refine below_set ?_ GE120.out|refine below_set ?_ GE121.out|refine below_set ?_ GE122.out|refine below_set ?_ GE123.out)|exact HB.out)) hb)
           clear BK120
           clear BK121
           clear BK122
           clear BK123
           clear HB
           have BK120:=n0_
           have BK121:=n1_
           have BK122:=n2_
           have BK123:=n3_
           have HB:=n4_
           clear n0_ n1_ n2_ n3_ n4_
           (try clear hb)
           (try clear hb2)
           (try clear hk)
           (try clear hi)
           refine hK.out _ _ ⟨(blk_cell BK121.out 0).trans rfl,(blk_cell BK121.out 1).trans rfl,(blk_cell BK121.out 2).trans rfl,(blk_cell BK121.out 3).trans rfl,(blk_cell BK120.out 0).trans rfl,(blk_cell BK120.out 1).trans rfl,(blk_cell BK120.out 2).trans rfl,(blk_cell BK120.out 3).trans rfl,(blk_cell BK122.out 0).trans rfl,(blk_cell BK122.out 1).trans rfl,(blk_cell BK122.out 2).trans rfl,(blk_cell BK122.out 3).trans rfl,(blk_cell BK123.out 0).trans rfl,(blk_cell BK123.out 1).trans rfl,(blk_cell BK123.out 2).trans rfl,(blk_cell BK123.out 3).trans rfl⟩ (fun hHeld=>?_)
           clear hK K
           refine norm_ (a':=?_) ?_ ?_
           rotate_left
           ·show Act.put _ (some 92) _ = _
            simp only [Act.put,List.setIfInBounds_toArray,List.set_cons_zero,List.set_cons_succ,i64_w,i32_w]
            rfl
           refine pure_ (i:=23) (N:=some 93) (v:=?_) (a':=?_) #[true,true,true,true,true,true,true,true,true,true,true,true,true,true,true,true,true,true,true,true,true,true,true,true,false] rfl rfl (any_of HT_.out (by kernel_rfl)) (fun _ _ _ h=>h) (Or.inl ⟨by rfl,?_⟩) ?_ ?_
           rotate_left
           ·intro w'
            go_simp
            with_reducible rfl
           rotate_left
           ·simp only [Act.put,List.setIfInBounds_toArray,List.set_cons_zero,List.set_cons_succ,i64_w,i32_w]
            rfl
           refine pure_ (i:=24) (N:=some 94) (v:=?_) (a':=?_) #[true,true,true,true,true,true,true,true,true,true,true,true,true,true,true,true,true,true,true,true,true,true,true,true,true] rfl rfl (any_of HT_.out (by kernel_rfl)) (fun _ _ _ h=>h) (Or.inl ⟨by rfl,?_⟩) ?_ ?_
           rotate_left
           ·intro w'
            go_simp
            with_reducible rfl
           rotate_left
           ·simp only [Act.put,List.setIfInBounds_toArray,List.set_cons_zero,List.set_cons_succ,i64_w,i32_w]
            rfl
           refine done_ (done_of HT_.out (by kernel_rfl)) ?_
           try go_wp2
           go_roundg k2
           case measure=>have:=HJ8.out;have:=HK2.out;omega
           case rel=>exact ⟨((x12_2 + 1) % 4294967296),(by first|rfl|(simp;done)|(simp [*];done)),H',⟨by have:=HJ8.out;have:=HK2.out;omega⟩,⟨by (with_reducible repeat (first|refine blk_drewN ?_ _|refine blk_drew ?_|refine blk_alloc ?_ _));exact BK120.out⟩,⟨by (with_reducible repeat (first|refine blk_drewN ?_ _|refine blk_drew ?_|refine blk_alloc ?_ _));exact BK121.out⟩,⟨by (with_reducible repeat (first|refine blk_drewN ?_ _|refine blk_drew ?_|refine blk_alloc ?_ _));exact BK122.out⟩,⟨by (with_reducible repeat (first|refine blk_drewN ?_ _|refine blk_drew ?_|refine blk_alloc ?_ _));exact BK123.out⟩,⟨by repeat (first|(with_reducible first|exact HB.out|apply below_alloc|apply pw_below_drewN|apply below_drew1|refine below_set ?_ GE120.out|refine below_set ?_ GE121.out|refine below_set ?_ GE122.out|refine below_set ?_ GE123.out)|exact HB.out)⟩⟩
          ·rw [if_neg c63] at H
           have c63b0 : (t134 == t135) = false:=beq_eq_false_iff_ne.mpr c63
           have c63b1 : (t134 != t135) = true:=bne_iff_ne.mpr c63
           exact absurd ((Option.some.inj H).trans hT_) (by decide)
         ·rw [if_neg c60] at H
          have c60b0 : (t132 == t133) = false:=beq_eq_false_iff_ne.mpr c60
          have c60b1 : (t132 != t133) = true:=bne_iff_ne.mpr c60
          exact absurd ((Option.some.inj H).trans hT_) (by decide)
        ·rw [if_neg c57] at H
         have c57b0 : (t130 == t131) = false:=beq_eq_false_iff_ne.mpr c57
         have c57b1 : (t130 != t131) = true:=bne_iff_ne.mpr c57
         exact absurd ((Option.some.inj H).trans hT_) (by decide)
       ·rw [if_neg c54] at H
        have c54b0 : decide (x12_2 ≤ (((wrap64 (1 + t117))) % 4294967296)) = false:=decide_eq_false c54
        clear c54
        have H':=Aside0.mk H
        clear H
        have hnb75:=NB120_121.out
        have hnc75:=NB121_120.out
        have hnb76:=NB120_122.out
        have hnc76:=NB122_120.out
        have hnb77:=NB120_123.out
        have hnc77:=NB123_120.out
        have hcz78_0 : wr.cell? ⟨gb120,0,none⟩ = some (.int .i64 (wrap64 (1 + t117))):=(blk_cell BK120.out 0).trans rfl
        have hcz78_1 : wr.cell? ⟨gb120,1,none⟩ = some (.int .i64 t118):=(blk_cell BK120.out 1).trans rfl
        have hcz78_2 : wr.cell? ⟨gb120,2,none⟩ = some (.int .i64 t119):=(blk_cell BK120.out 2).trans rfl
        have hcz78_3 : wr.cell? ⟨gb120,3,none⟩ = some (.int .u32 0):=(blk_cell BK120.out 3).trans rfl
        have hfz78_0:=blk_frozen BK120.out 0
        have hfz78_1:=blk_frozen BK120.out 1
        have hfz78_2:=blk_frozen BK120.out 2
        have hfz78_3:=blk_frozen BK120.out 3
        go_wp2
        go_loopg [13] k2 (fun kq v13 w'=>∃ (x13_3 : Int),v13 = .int .i64 x13_3∧Aside0 (hatstandlaw6_LayoutGrows.l1 kq x13_3 (wrap64 (1 + t117)) t118 t119 0 (wrap64 ((wrap64 (1 + t117)) + 1)) t118 t119 0 (wrap64 (1 + t117)) (wrap64 (t118 + 1)) t119 0 (wrap64 (1 + t117)) t118 (wrap64 (t119 + 1)) 0 = some r)∧Aside0 (kq ≤ k2)∧Aside0 (w'.heap[gb120]? = some (.cells #[.int .i64 (wrap64 (1 + t117)),.int .i64 t118,.int .i64 t119,.int .u32 0] 25 (0,0)))∧Aside0 (w'.heap[gb121]? = some (.cells #[.int .i64 (wrap64 ((wrap64 (1 + t117)) + 1)),.int .i64 t118,.int .i64 t119,.int .u32 0] 25 (0,0)))∧Aside0 (w'.heap[gb122]? = some (.cells #[.int .i64 (wrap64 (1 + t117)),.int .i64 (wrap64 (t118 + 1)),.int .i64 t119,.int .u32 0] 25 (0,0)))∧Aside0 (w'.heap[gb123]? = some (.cells #[.int .i64 (wrap64 (1 + t117)),.int .i64 t118,.int .i64 (wrap64 (t119 + 1)),.int .u32 0] 25 (0,0)))∧Aside0 (Below w.heap.size w w'))
        case atStart=>exact ⟨(0),(by first|rfl|(simp;done)|(simp [*];done)),H',⟨Nat.le_refl _⟩,⟨by (with_reducible repeat (first|refine blk_drewN ?_ _|refine blk_drew ?_|refine blk_alloc ?_ _));exact BK120.out⟩,⟨by (with_reducible repeat (first|refine blk_drewN ?_ _|refine blk_drew ?_|refine blk_alloc ?_ _));exact BK121.out⟩,⟨by (with_reducible repeat (first|refine blk_drewN ?_ _|refine blk_drew ?_|refine blk_alloc ?_ _));exact BK122.out⟩,⟨by (with_reducible repeat (first|refine blk_drewN ?_ _|refine blk_drew ?_|refine blk_alloc ?_ _));exact BK123.out⟩,⟨by repeat (first|(with_reducible first|exact HB.out|apply below_alloc|apply pw_below_drewN|apply below_drew1|refine below_set ?_ GE120.out|refine below_set ?_ GE121.out|refine below_set ?_ GE122.out|refine below_set ?_ GE123.out)|exact HB.out)⟩⟩
        case round =>
         clear H'
         try clear c1
         try clear c2
         try clear p2
         try clear c3
         try clear c5
         try clear c6
         try clear p6
         try clear c7
         try clear c14
         try clear c15
         try clear c18
         try clear c29
         try clear c29b0
         try clear c29b1
         try clear c32
         try clear c32b0
         try clear c32b1
         try clear c53
         try clear c54
         try clear c54b0
         try clear c57
         try clear c57b0
         try clear c57b1
         try clear c60
         try clear c60b0
         try clear c60b1
         try clear c63
         try clear c63b0
         try clear c63b1
         try clear c64
         try clear p64
         try clear c65
         try clear c66
         try clear c75
         try clear c76
         try clear c77
         try clear hcz67_0
         try clear hcz67_1
         try clear hcz67_2
         try clear hcz67_3
         try clear hcz78_0
         try clear hcz78_1
         try clear hcz78_2
         try clear hcz78_3
         try clear hfz67_0
         try clear hfz67_1
         try clear hfz67_2
         try clear hfz67_3
         try clear hfz78_0
         try clear hfz78_1
         try clear hfz78_2
         try clear hfz78_3
         try clear p2
         try clear p6
         obtain ⟨x13_3,rfl,HA,HK3,BK120,BK121,BK122,BK123,HB⟩:=hrel
         cases gk with
        |zero=>exact absurd HA.out (by simp [hatstandlaw6_LayoutGrows.l1])
        |succ k3 =>
          have H:=HA.out
          clear HA
          simp only [hatstandlaw6_LayoutGrows.l1] at H
          by_cases c79 : x13_3 < t118
          ·rw [if_pos c79] at H
           have c79b0 : decide (x13_3 < t118) = true:=decide_eq_true c79
           clear c79
           replace H:=Option.bind_eq_some_iff.mp H
           obtain ⟨t136,A800,H⟩:=H
           replace H : ((layout_Config_Slot.f (wrap64 (1 + t117)) t118 t119 0 x13_3).bind fun t137=>(if t136 = (wrap64 (t137 + 2)) then ((layout_Config_Slot.f (wrap64 (1 + t117)) (wrap64 (t118 + 1)) t119 0 x13_3).bind fun t138=>((layout_Config_Slot.f (wrap64 (1 + t117)) t118 t119 0 x13_3).bind fun t139=>(if t138 = t139 then ((layout_Config_Slot.f (wrap64 (1 + t117)) t118 (wrap64 (t119 + 1)) 0 x13_3).bind fun t140=>((layout_Config_Slot.f (wrap64 (1 + t117)) t118 t119 0 x13_3).bind fun t141=>(if t140 = t141 then (hatstandlaw6_LayoutGrows.l1 k3 (wrap64 (x13_3 + 1)) (wrap64 (1 + t117)) t118 t119 0 (wrap64 ((wrap64 (1 + t117)) + 1)) t118 t119 0 (wrap64 (1 + t117)) (wrap64 (t118 + 1)) t119 0 (wrap64 (1 + t117)) t118 (wrap64 (t119 + 1)) 0) else (some false)))) else (some false)))) else (some false))) = some r:=H
           have A80:=Aside0.mk A800
           clear A800
           replace H:=Option.bind_eq_some_iff.mp H
           obtain ⟨t137,A810,H⟩:=H
           replace H : (if t136 = (wrap64 (t137 + 2)) then ((layout_Config_Slot.f (wrap64 (1 + t117)) (wrap64 (t118 + 1)) t119 0 x13_3).bind fun t138=>((layout_Config_Slot.f (wrap64 (1 + t117)) t118 t119 0 x13_3).bind fun t139=>(if t138 = t139 then ((layout_Config_Slot.f (wrap64 (1 + t117)) t118 (wrap64 (t119 + 1)) 0 x13_3).bind fun t140=>((layout_Config_Slot.f (wrap64 (1 + t117)) t118 t119 0 x13_3).bind fun t141=>(if t140 = t141 then (hatstandlaw6_LayoutGrows.l1 k3 (wrap64 (x13_3 + 1)) (wrap64 (1 + t117)) t118 t119 0 (wrap64 ((wrap64 (1 + t117)) + 1)) t118 t119 0 (wrap64 (1 + t117)) (wrap64 (t118 + 1)) t119 0 (wrap64 (1 + t117)) t118 (wrap64 (t119 + 1)) 0) else (some false)))) else (some false)))) else (some false)) = some r:=H
           have A81:=Aside0.mk A810
           clear A810
           by_cases c82 : t136 = (wrap64 (t137 + 2))
           ·rw [if_pos c82] at H
            have c82b0 : (t136 == (wrap64 (t137 + 2))) = true:=beq_iff_eq.mpr c82
            have c82b1 : (t136 != (wrap64 (t137 + 2))) = false:=bne_eq_false_iff_eq.mpr c82
            clear c82
            replace H:=Option.bind_eq_some_iff.mp H
            obtain ⟨t138,A830,H⟩:=H
            replace H : ((layout_Config_Slot.f (wrap64 (1 + t117)) t118 t119 0 x13_3).bind fun t139=>(if t138 = t139 then ((layout_Config_Slot.f (wrap64 (1 + t117)) t118 (wrap64 (t119 + 1)) 0 x13_3).bind fun t140=>((layout_Config_Slot.f (wrap64 (1 + t117)) t118 t119 0 x13_3).bind fun t141=>(if t140 = t141 then (hatstandlaw6_LayoutGrows.l1 k3 (wrap64 (x13_3 + 1)) (wrap64 (1 + t117)) t118 t119 0 (wrap64 ((wrap64 (1 + t117)) + 1)) t118 t119 0 (wrap64 (1 + t117)) (wrap64 (t118 + 1)) t119 0 (wrap64 (1 + t117)) t118 (wrap64 (t119 + 1)) 0) else (some false)))) else (some false))) = some r:=H
            have A83:=Aside0.mk A830
            clear A830
            replace H:=Option.bind_eq_some_iff.mp H
            obtain ⟨t139,A840,H⟩:=H
            replace H : (if t138 = t139 then ((layout_Config_Slot.f (wrap64 (1 + t117)) t118 (wrap64 (t119 + 1)) 0 x13_3).bind fun t140=>((layout_Config_Slot.f (wrap64 (1 + t117)) t118 t119 0 x13_3).bind fun t141=>(if t140 = t141 then (hatstandlaw6_LayoutGrows.l1 k3 (wrap64 (x13_3 + 1)) (wrap64 (1 + t117)) t118 t119 0 (wrap64 ((wrap64 (1 + t117)) + 1)) t118 t119 0 (wrap64 (1 + t117)) (wrap64 (t118 + 1)) t119 0 (wrap64 (1 + t117)) t118 (wrap64 (t119 + 1)) 0) else (some false)))) else (some false)) = some r:=H
            have A84:=Aside0.mk A840
            clear A840
            by_cases c85 : t138 = t139
            ·rw [if_pos c85] at H
             have c85b0 : (t138 == t139) = true:=beq_iff_eq.mpr c85
             have c85b1 : (t138 != t139) = false:=bne_eq_false_iff_eq.mpr c85
             clear c85
             replace H:=Option.bind_eq_some_iff.mp H
             obtain ⟨t140,A860,H⟩:=H
             replace H : ((layout_Config_Slot.f (wrap64 (1 + t117)) t118 t119 0 x13_3).bind fun t141=>(if t140 = t141 then (hatstandlaw6_LayoutGrows.l1 k3 (wrap64 (x13_3 + 1)) (wrap64 (1 + t117)) t118 t119 0 (wrap64 ((wrap64 (1 + t117)) + 1)) t118 t119 0 (wrap64 (1 + t117)) (wrap64 (t118 + 1)) t119 0 (wrap64 (1 + t117)) t118 (wrap64 (t119 + 1)) 0) else (some false))) = some r:=H
             have A86:=Aside0.mk A860
             clear A860
             replace H:=Option.bind_eq_some_iff.mp H
             obtain ⟨t141,A870,H⟩:=H
             replace H : (if t140 = t141 then (hatstandlaw6_LayoutGrows.l1 k3 (wrap64 (x13_3 + 1)) (wrap64 (1 + t117)) t118 t119 0 (wrap64 ((wrap64 (1 + t117)) + 1)) t118 t119 0 (wrap64 (1 + t117)) (wrap64 (t118 + 1)) t119 0 (wrap64 (1 + t117)) t118 (wrap64 (t119 + 1)) 0) else (some false)) = some r:=H
             have A87:=Aside0.mk A870
             clear A870
             by_cases c88 : t140 = t141
             ·rw [if_pos c88] at H
              have c88b0 : (t140 == t141) = true:=beq_iff_eq.mpr c88
              have c88b1 : (t140 != t141) = false:=bne_eq_false_iff_eq.mpr c88
              clear c88
              have H':=Aside0.mk H
              clear H
              have hnb89:=NB120_121.out
              have hnc89:=NB121_120.out
              have hnb90:=NB120_122.out
              have hnc90:=NB122_120.out
              have hnb91:=NB120_123.out
              have hnc91:=NB123_120.out
              have hcz92_0 : wr.cell? ⟨gb120,0,none⟩ = some (.int .i64 (wrap64 (1 + t117))):=(blk_cell BK120.out 0).trans rfl
              have hcz92_1 : wr.cell? ⟨gb120,1,none⟩ = some (.int .i64 t118):=(blk_cell BK120.out 1).trans rfl
              have hcz92_2 : wr.cell? ⟨gb120,2,none⟩ = some (.int .i64 t119):=(blk_cell BK120.out 2).trans rfl
              have hcz92_3 : wr.cell? ⟨gb120,3,none⟩ = some (.int .u32 0):=(blk_cell BK120.out 3).trans rfl
              have hfz92_0:=blk_frozen BK120.out 0
              have hfz92_1:=blk_frozen BK120.out 1
              have hfz92_2:=blk_frozen BK120.out 2
              have hfz92_3:=blk_frozen BK120.out 3
              try go_wp2
              have n0_:=Aside0.mk (blk_drew BK120.out)
              have n1_:=Aside0.mk (blk_drew BK121.out)
              have n2_:=Aside0.mk (blk_drew BK122.out)
              have n3_:=Aside0.mk (blk_drew BK123.out)
              have n4_:=Aside0.mk (below_drew1 HB.out)
              clear BK120
              clear BK121
              clear BK122
              clear BK123
              clear HB
              have BK120:=n0_
              have BK121:=n1_
              have BK122:=n2_
              have BK123:=n3_
              have HB:=n4_
              clear n0_ n1_ n2_ n3_ n4_
              refine start_ (n:=26) (S:=fun w'=>w'.cell? ⟨gb121,0,none⟩ = some (.int .i64 (wrap64 ((wrap64 (1 + t117)) + 1)))∧w'.cell? ⟨gb121,1,none⟩ = some (.int .i64 t118)∧w'.cell? ⟨gb121,2,none⟩ = some (.int .i64 t119)∧w'.cell? ⟨gb121,3,none⟩ = some (.int .u32 0)∧w'.cell? ⟨gb120,0,none⟩ = some (.int .i64 (wrap64 (1 + t117)))∧w'.cell? ⟨gb120,1,none⟩ = some (.int .i64 t118)∧w'.cell? ⟨gb120,2,none⟩ = some (.int .i64 t119)∧w'.cell? ⟨gb120,3,none⟩ = some (.int .u32 0)∧w'.cell? ⟨gb122,0,none⟩ = some (.int .i64 (wrap64 (1 + t117)))∧w'.cell? ⟨gb122,1,none⟩ = some (.int .i64 (wrap64 (t118 + 1)))∧w'.cell? ⟨gb122,2,none⟩ = some (.int .i64 t119)∧w'.cell? ⟨gb122,3,none⟩ = some (.int .u32 0)∧w'.cell? ⟨gb123,0,none⟩ = some (.int .i64 (wrap64 (1 + t117)))∧w'.cell? ⟨gb123,1,none⟩ = some (.int .i64 t118)∧w'.cell? ⟨gb123,2,none⟩ = some (.int .i64 (wrap64 (t119 + 1)))∧w'.cell? ⟨gb123,3,none⟩ = some (.int .u32 0)) (ds:=[]) #[false,false,false,false,false,false,false,false,false,false,false,false,false,false,false,false,false,false,false,false,false,false,false,false,false,false] (by kernel_rfl) rfl rfl ⟨(blk_cell BK121.out 0).trans rfl,(blk_cell BK121.out 1).trans rfl,(blk_cell BK121.out 2).trans rfl,(blk_cell BK121.out 3).trans rfl,(blk_cell BK120.out 0).trans rfl,(blk_cell BK120.out 1).trans rfl,(blk_cell BK120.out 2).trans rfl,(blk_cell BK120.out 3).trans rfl,(blk_cell BK122.out 0).trans rfl,(blk_cell BK122.out 1).trans rfl,(blk_cell BK122.out 2).trans rfl,(blk_cell BK122.out 3).trans rfl,(blk_cell BK123.out 0).trans rfl,(blk_cell BK123.out 1).trans rfl,(blk_cell BK123.out 2).trans rfl,(blk_cell BK123.out 3).trans rfl⟩ (fun hHeld=>?_);refine with_tabW hatstandlaw6_LayoutGrows.tab21 hatstandlaw6_LayoutGrows.bits21 (fun HT_ HW_=>?_)
              generalize wr.drew = w93 at BK120 BK121 BK122 BK123 HB hHeld ⊢
              refine pure_ (i:=1) (N:=some 102) (v:=?_) (a':=?_) #[false,true,false,false,false,false,false,false,false,false,false,false,false,false,false,false,false,false,false,false,false,false,false,false,false,false] rfl rfl (any_of HT_.out (by kernel_rfl)) (fun _ _ _ h=>h) (Or.inl ⟨by rfl,?_⟩) ?_ ?_
              rotate_left
              ·intro w'
               go_simp
               with_reducible rfl
              rotate_left
              ·simp only [Act.put,List.setIfInBounds_toArray,List.set_cons_zero,List.set_cons_succ,i64_w,i32_w]
               rfl
              refine pure_ (i:=4) (N:=some 105) (v:=?_) (a':=?_) #[false,true,false,false,true,false,false,false,false,false,false,false,false,false,false,false,false,false,false,false,false,false,false,false,false,false] rfl rfl (any_of HT_.out (by kernel_rfl)) (fun _ _ _ h=>h) (Or.inl ⟨by rfl,?_⟩) ?_ ?_
              rotate_left
              ·intro w'
               go_simp
               with_reducible rfl
              rotate_left
              ·simp only [Act.put,List.setIfInBounds_toArray,List.set_cons_zero,List.set_cons_succ,i64_w,i32_w]
               rfl
              refine take_ (i:=0) (N:=some 101) (v:=?_) (a':=?_) #[true,true,false,false,true,false,false,false,false,false,false,false,false,false,false,false,false,false,false,false,false,false,false,false,false,false] rfl rfl (take_ofW HT_.out HW_.out (by kernel_rfl)) (fun _ _ _ h=>h) (Or.inl ⟨by rfl,?_⟩) hHeld ?_ ?_
              rotate_left
              ·rintro w' ⟨s0,s1,s2,s3,s4,s5,s6,s7,s8,s9,s10,s11,s12,s13,s14,s15⟩
               go_simp
               with_reducible rfl
              rotate_left
              ·simp only [Act.put,List.setIfInBounds_toArray,List.set_cons_zero,List.set_cons_succ,i64_w,i32_w]
               rfl
              refine take_ (i:=3) (N:=some 104) (v:=?_) (a':=?_) #[true,true,false,true,true,false,false,false,false,false,false,false,false,false,false,false,false,false,false,false,false,false,false,false,false,false] rfl rfl (take_ofW HT_.out HW_.out (by kernel_rfl)) (fun _ _ _ h=>h) (Or.inl ⟨by rfl,?_⟩) hHeld ?_ ?_
              rotate_left
              ·rintro w' ⟨s0,s1,s2,s3,s4,s5,s6,s7,s8,s9,s10,s11,s12,s13,s14,s15⟩
               go_simp
               with_reducible rfl
              rotate_left
              ·simp only [Act.put,List.setIfInBounds_toArray,List.set_cons_zero,List.set_cons_succ,i64_w,i32_w]
               rfl
              refine one_ (i:=2) (N:=some 103) #[true,true,true,true,true,false,false,false,false,false,false,false,false,false,false,false,false,false,false,false,false,false,false,false,false,false] rfl rfl (one_of HT_.out (by kernel_rfl)) (by decide) (fun K hK=>?_)
              refine goes_ Try.func16 (by kernel_rfl) rfl #[.agg #[.int .i64 (wrap64 ((wrap64 (1 + t117)) + 1)),.int .i64 t118,.int .i64 t119,.int .u32 0],.int .i64 x13_3] (by rfl) rfl rfl (by (try simp only [List.map_toArray,List.map_cons,List.map_nil]);first|done|rfl|(simp only [List.length_drop,List.length_take];rfl)) ?_
              with_reducible refine (layout_Config_Slot.calls (wrap64 ((wrap64 (1 + t117)) + 1)) t118 t119 0 x13_3 t136 _ A80.out).mono ?_
              rintro e w94 ⟨rfl,hb⟩
              refine ⟨_,rfl,?_⟩
              have n0_:=Aside0.mk (blk_below (g:=gb120) (o:=.cells #[.int .i64 (wrap64 (1 + t117)),.int .i64 t118,.int .i64 t119,.int .u32 0] 25 (0,0)) (by (with_reducible repeat (first|refine blk_drewN ?_ _|refine blk_drew ?_|refine blk_alloc ?_ _));exact BK120.out) hb)
              have n1_:=Aside0.mk (blk_below (g:=gb121) (o:=.cells #[.int .i64 (wrap64 ((wrap64 (1 + t117)) + 1)),.int .i64 t118,.int .i64 t119,.int .u32 0] 25 (0,0)) (by (with_reducible repeat (first|refine blk_drewN ?_ _|refine blk_drew ?_|refine blk_alloc ?_ _));exact BK121.out) hb)
              have n2_:=Aside0.mk (blk_below (g:=gb122) (o:=.cells #[.int .i64 (wrap64 (1 + t117)),.int .i64 (wrap64 (t118 + 1)),.int .i64 t119,.int .u32 0] 25 (0,0)) (by (with_reducible repeat (first|refine blk_drewN ?_ _|refine blk_drew ?_|refine blk_alloc ?_ _));exact BK122.out) hb)
              have n3_:=Aside0.mk (blk_below (g:=gb123) (o:=.cells #[.int .i64 (wrap64 (1 + t117)),.int .i64 t118,.int .i64 (wrap64 (t119 + 1)),.int .u32 0] 25 (0,0)) (by (with_reducible repeat (first|refine blk_drewN ?_ _|refine blk_drew ?_|refine blk_alloc ?_ _));exact BK123.out) hb)
              have n4_:=Aside0.mk (below_step (by repeat (first|(with_reducible first|exact HB.out|apply below_alloc|apply pw_below_drewN|apply below_drew1|refine below_set ?_ GE120.out|refine below_set ?_ GE121.out|refine below_set ?_ GE122.out|refine below_set ?_ GE123.out)|exact HB.out)) hb)
              clear BK120
              clear BK121
              clear BK122
              clear BK123
              clear HB
              have BK120:=n0_
              have BK121:=n1_
              have BK122:=n2_
              have BK123:=n3_
              have HB:=n4_
              clear n0_ n1_ n2_ n3_ n4_
              (try clear hb)
              (try clear hb2)
              (try clear hk)
              (try clear hi)
              refine hK.out _ _ ⟨(blk_cell BK121.out 0).trans rfl,(blk_cell BK121.out 1).trans rfl,(blk_cell BK121.out 2).trans rfl,(blk_cell BK121.out 3).trans rfl,(blk_cell BK120.out 0).trans rfl,(blk_cell BK120.out 1).trans rfl,(blk_cell BK120.out 2).trans rfl,(blk_cell BK120.out 3).trans rfl,(blk_cell BK122.out 0).trans rfl,(blk_cell BK122.out 1).trans rfl,(blk_cell BK122.out 2).trans rfl,(blk_cell BK122.out 3).trans rfl,(blk_cell BK123.out 0).trans rfl,(blk_cell BK123.out 1).trans rfl,(blk_cell BK123.out 2).trans rfl,(blk_cell BK123.out 3).trans rfl⟩ (fun hHeld=>?_)
              clear hK K
              refine norm_ (a':=?_) ?_ ?_
              rotate_left
              ·show Act.put _ (some 103) _ = _
               simp only [Act.put,List.setIfInBounds_toArray,List.set_cons_zero,List.set_cons_succ,i64_w,i32_w]
               rfl
              refine one_ (i:=5) (N:=some 106) #[true,true,true,true,true,true,false,false,false,false,false,false,false,false,false,false,false,false,false,false,false,false,false,false,false,false] rfl rfl (one_of HT_.out (by kernel_rfl)) (by decide) (fun K hK=>?_)
              refine goes_ Try.func16 (by kernel_rfl) rfl #[.agg #[.int .i64 (wrap64 (1 + t117)),.int .i64 t118,.int .i64 t119,.int .u32 0],.int .i64 x13_3] (by rfl) rfl rfl (by (try simp only [List.map_toArray,List.map_cons,List.map_nil]);first|done|rfl|(simp only [List.length_drop,List.length_take];rfl)) ?_
              with_reducible refine (layout_Config_Slot.calls (wrap64 (1 + t117)) t118 t119 0 x13_3 t137 _ A81.out).mono ?_
              rintro e w95 ⟨rfl,hb⟩
              refine ⟨_,rfl,?_⟩
              have n0_:=Aside0.mk (blk_below (g:=gb120) (o:=.cells #[.int .i64 (wrap64 (1 + t117)),.int .i64 t118,.int .i64 t119,.int .u32 0] 25 (0,0)) (by (with_reducible repeat (first|refine blk_drewN ?_ _|refine blk_drew ?_|refine blk_alloc ?_ _));exact BK120.out) hb)
              have n1_:=Aside0.mk (blk_below (g:=gb121) (o:=.cells #[.int .i64 (wrap64 ((wrap64 (1 + t117)) + 1)),.int .i64 t118,.int .i64 t119,.int .u32 0] 25 (0,0)) (by (with_reducible repeat (first|refine blk_drewN ?_ _|refine blk_drew ?_|refine blk_alloc ?_ _));exact BK121.out) hb)
              have n2_:=Aside0.mk (blk_below (g:=gb122) (o:=.cells #[.int .i64 (wrap64 (1 + t117)),.int .i64 (wrap64 (t118 + 1)),.int .i64 t119,.int .u32 0] 25 (0,0)) (by (with_reducible repeat (first|refine blk_drewN ?_ _|refine blk_drew ?_|refine blk_alloc ?_ _));exact BK122.out) hb)
              have n3_:=Aside0.mk (blk_below (g:=gb123) (o:=.cells #[.int .i64 (wrap64 (1 + t117)),.int .i64 t118,.int .i64 (wrap64 (t119 + 1)),.int .u32 0] 25 (0,0)) (by (with_reducible repeat (first|refine blk_drewN ?_ _|refine blk_drew ?_|refine blk_alloc ?_ _));exact BK123.out) hb)
              have n4_:=Aside0.mk (below_step (by repeat (first|(with_reducible first|exact HB.out|apply below_alloc|apply pw_below_drewN|apply below_drew1|refine below_set ?_ GE120.out|refine below_set ?_ GE121.out|refine below_set ?_ GE122.out|refine below_set ?_ GE123.out)|exact HB.out)) hb)
              clear BK120
              clear BK121
              clear BK122
              clear BK123
              clear HB
              have BK120:=n0_
              have BK121:=n1_
              have BK122:=n2_
              have BK123:=n3_
              have HB:=n4_
              clear n0_ n1_ n2_ n3_ n4_
              (try clear hb)
              (try clear hb2)
              (try clear hk)
              (try clear hi)
              refine hK.out _ _ ⟨(blk_cell BK121.out 0).trans rfl,(blk_cell BK121.out 1).trans rfl,(blk_cell BK121.out 2).trans rfl,(blk_cell BK121.out 3).trans rfl,(blk_cell BK120.out 0).trans rfl,(blk_cell BK120.out 1).trans rfl,(blk_cell BK120.out 2).trans rfl,(blk_cell BK120.out 3).trans rfl,(blk_cell BK122.out 0).trans rfl,(blk_cell BK122.out 1).trans rfl,(blk_cell BK122.out 2).trans rfl,(blk_cell BK122.out 3).trans rfl,(blk_cell BK123.out 0).trans rfl,(blk_cell BK123.out 1).trans rfl,(blk_cell BK123.out 2).trans rfl,(blk_cell BK123.out 3).trans rfl⟩ (fun hHeld=>?_)
              clear hK K
              refine norm_ (a':=?_) ?_ ?_
              rotate_left
              ·show Act.put _ (some 106) _ = _
               simp only [Act.put,List.setIfInBounds_toArray,List.set_cons_zero,List.set_cons_succ,i64_w,i32_w]
               rfl
              refine pure_ (i:=6) (N:=some 107) (v:=?_) (a':=?_) #[true,true,true,true,true,true,true,false,false,false,false,false,false,false,false,false,false,false,false,false,false,false,false,false,false,false] rfl rfl (any_of HT_.out (by kernel_rfl)) (fun _ _ _ h=>h) (Or.inl ⟨by rfl,?_⟩) ?_ ?_
              rotate_left
              ·intro w'
               go_simp
               with_reducible rfl
              rotate_left
              ·simp only [Act.put,List.setIfInBounds_toArray,List.set_cons_zero,List.set_cons_succ,i64_w,i32_w]
               rfl
              refine pure_ (i:=7) (N:=some 108) (v:=?_) (a':=?_) #[true,true,true,true,true,true,true,true,false,false,false,false,false,false,false,false,false,false,false,false,false,false,false,false,false,false] rfl rfl (any_of HT_.out (by kernel_rfl)) (fun _ _ _ h=>h) (Or.inl ⟨by rfl,?_⟩) ?_ ?_
              rotate_left
              ·intro w'
               go_simp
               with_reducible rfl
              rotate_left
              ·simp only [Act.put,List.setIfInBounds_toArray,List.set_cons_zero,List.set_cons_succ,i64_w,i32_w]
               rfl
              refine pure_ (i:=8) (N:=some 109) (v:=?_) (a':=?_) #[true,true,true,true,true,true,true,true,true,false,false,false,false,false,false,false,false,false,false,false,false,false,false,false,false,false] rfl rfl (any_of HT_.out (by kernel_rfl)) (fun _ _ _ h=>h) (Or.inl ⟨by rfl,?_⟩) ?_ ?_
              rotate_left
              ·intro w'
               go_simp
               with_reducible rfl
              rotate_left
              ·simp only [Act.put,List.setIfInBounds_toArray,List.set_cons_zero,List.set_cons_succ,i64_w,i32_w]
               rfl
              refine pure_ (i:=10) (N:=some 111) (v:=?_) (a':=?_) #[true,true,true,true,true,true,true,true,true,false,true,false,false,false,false,false,false,false,false,false,false,false,false,false,false,false] rfl rfl (any_of HT_.out (by kernel_rfl)) (fun _ _ _ h=>h) (Or.inl ⟨by rfl,?_⟩) ?_ ?_
              rotate_left
              ·intro w'
               go_simp
               with_reducible rfl
              rotate_left
              ·simp only [Act.put,List.setIfInBounds_toArray,List.set_cons_zero,List.set_cons_succ,i64_w,i32_w]
               rfl
              refine pure_ (i:=13) (N:=some 114) (v:=?_) (a':=?_) #[true,true,true,true,true,true,true,true,true,false,true,false,false,true,false,false,false,false,false,false,false,false,false,false,false,false] rfl rfl (any_of HT_.out (by kernel_rfl)) (fun _ _ _ h=>h) (Or.inl ⟨by rfl,?_⟩) ?_ ?_
              rotate_left
              ·intro w'
               go_simp
               with_reducible rfl
              rotate_left
              ·simp only [Act.put,List.setIfInBounds_toArray,List.set_cons_zero,List.set_cons_succ,i64_w,i32_w]
               rfl
              refine take_ (i:=9) (N:=some 110) (v:=?_) (a':=?_) #[true,true,true,true,true,true,true,true,true,true,true,false,false,true,false,false,false,false,false,false,false,false,false,false,false,false] rfl rfl (take_ofW HT_.out HW_.out (by kernel_rfl)) (fun _ _ _ h=>h) (Or.inl ⟨by rfl,?_⟩) hHeld ?_ ?_
              rotate_left
              ·rintro w' ⟨s0,s1,s2,s3,s4,s5,s6,s7,s8,s9,s10,s11,s12,s13,s14,s15⟩
               go_simp
               with_reducible rfl
              rotate_left
              ·simp only [Act.put,List.setIfInBounds_toArray,List.set_cons_zero,List.set_cons_succ,i64_w,i32_w]
               rfl
              refine take_ (i:=12) (N:=some 113) (v:=?_) (a':=?_) #[true,true,true,true,true,true,true,true,true,true,true,false,true,true,false,false,false,false,false,false,false,false,false,false,false,false] rfl rfl (take_ofW HT_.out HW_.out (by kernel_rfl)) (fun _ _ _ h=>h) (Or.inl ⟨by rfl,?_⟩) hHeld ?_ ?_
              rotate_left
              ·rintro w' ⟨s0,s1,s2,s3,s4,s5,s6,s7,s8,s9,s10,s11,s12,s13,s14,s15⟩
               go_simp
               with_reducible rfl
              rotate_left
              ·simp only [Act.put,List.setIfInBounds_toArray,List.set_cons_zero,List.set_cons_succ,i64_w,i32_w]
               rfl
              refine one_ (i:=11) (N:=some 112) #[true,true,true,true,true,true,true,true,true,true,true,true,true,true,false,false,false,false,false,false,false,false,false,false,false,false] rfl rfl (one_of HT_.out (by kernel_rfl)) (by decide) (fun K hK=>?_)
              refine goes_ Try.func16 (by kernel_rfl) rfl #[.agg #[.int .i64 (wrap64 (1 + t117)),.int .i64 (wrap64 (t118 + 1)),.int .i64 t119,.int .u32 0],.int .i64 x13_3] (by rfl) rfl rfl (by (try simp only [List.map_toArray,List.map_cons,List.map_nil]);first|done|rfl|(simp only [List.length_drop,List.length_take];rfl)) ?_
              with_reducible refine (layout_Config_Slot.calls (wrap64 (1 + t117)) (wrap64 (t118 + 1)) t119 0 x13_3 t138 _ A83.out).mono ?_
              rintro e w96 ⟨rfl,hb⟩
              refine ⟨_,rfl,?_⟩
              have n0_:=Aside0.mk (blk_below (g:=gb120) (o:=.cells #[.int .i64 (wrap64 (1 + t117)),.int .i64 t118,.int .i64 t119,.int .u32 0] 25 (0,0)) (by (with_reducible repeat (first|refine blk_drewN ?_ _|refine blk_drew ?_|refine blk_alloc ?_ _));exact BK120.out) hb)
              have n1_:=Aside0.mk (blk_below (g:=gb121) (o:=.cells #[.int .i64 (wrap64 ((wrap64 (1 + t117)) + 1)),.int .i64 t118,.int .i64 t119,.int .u32 0] 25 (0,0)) (by (with_reducible repeat (first|refine blk_drewN ?_ _|refine blk_drew ?_|refine blk_alloc ?_ _));exact BK121.out) hb)
              have n2_:=Aside0.mk (blk_below (g:=gb122) (o:=.cells #[.int .i64 (wrap64 (1 + t117)),.int .i64 (wrap64 (t118 + 1)),.int .i64 t119,.int .u32 0] 25 (0,0)) (by (with_reducible repeat (first|refine blk_drewN ?_ _|refine blk_drew ?_|refine blk_alloc ?_ _));exact BK122.out) hb)
              have n3_:=Aside0.mk (blk_below (g:=gb123) (o:=.cells #[.int .i64 (wrap64 (1 + t117)),.int .i64 t118,.int .i64 (wrap64 (t119 + 1)),.int .u32 0] 25 (0,0)) (by (with_reducible repeat (first|refine blk_drewN ?_ _|refine blk_drew ?_|refine blk_alloc ?_ _));exact BK123.out) hb)
              have n4_:=Aside0.mk (below_step (by repeat (first|(with_reducible first|exact HB.out|apply below_alloc|apply pw_below_drewN|apply below_drew1|refine below_set ?_ GE120.out|refine below_set ?_ GE121.out|refine below_set ?_ GE122.out|refine below_set ?_ GE123.out)|exact HB.out)) hb)
              clear BK120
              clear BK121
              clear BK122
              clear BK123
              clear HB
              have BK120:=n0_
              have BK121:=n1_
              have BK122:=n2_
              have BK123:=n3_
              have HB:=n4_
              clear n0_ n1_ n2_ n3_ n4_
              (try clear hb)
              (try clear hb2)
              (try clear hk)
              (try clear hi)
              refine hK.out _ _ ⟨(blk_cell BK121.out 0).trans rfl,(blk_cell BK121.out 1).trans rfl,(blk_cell BK121.out 2).trans rfl,(blk_cell BK121.out 3).trans rfl,(blk_cell BK120.out 0).trans rfl,(blk_cell BK120.out 1).trans rfl,(blk_cell BK120.out 2).trans rfl,(blk_cell BK120.out 3).trans rfl,(blk_cell BK122.out 0).trans rfl,(blk_cell BK122.out 1).trans rfl,(blk_cell BK122.out 2).trans rfl,(blk_cell BK122.out 3).trans rfl,(blk_cell BK123.out 0).trans rfl,(blk_cell BK123.out 1).trans rfl,(blk_cell BK123.out 2).trans rfl,(blk_cell BK123.out 3).trans rfl⟩ (fun hHeld=>?_)
              clear hK K
              refine norm_ (a':=?_) ?_ ?_
              rotate_left
              ·show Act.put _ (some 112) _ = _
               simp only [Act.put,List.setIfInBounds_toArray,List.set_cons_zero,List.set_cons_succ,i64_w,i32_w]
               rfl
              refine one_ (i:=14) (N:=some 115) #[true,true,true,true,true,true,true,true,true,true,true,true,true,true,true,false,false,false,false,false,false,false,false,false,false,false] rfl rfl (one_of HT_.out (by kernel_rfl)) (by decide) (fun K hK=>?_)
              refine goes_ Try.func16 (by kernel_rfl) rfl #[.agg #[.int .i64 (wrap64 (1 + t117)),.int .i64 t118,.int .i64 t119,.int .u32 0],.int .i64 x13_3] (by rfl) rfl rfl (by (try simp only [List.map_toArray,List.map_cons,List.map_nil]);first|done|rfl|(simp only [List.length_drop,List.length_take];rfl)) ?_
              with_reducible refine (layout_Config_Slot.calls (wrap64 (1 + t117)) t118 t119 0 x13_3 t139 _ A84.out).mono ?_
              rintro e w97 ⟨rfl,hb⟩
              refine ⟨_,rfl,?_⟩
              have n0_:=Aside0.mk (blk_below (g:=gb120) (o:=.cells #[.int .i64 (wrap64 (1 + t117)),.int .i64 t118,.int .i64 t119,.int .u32 0] 25 (0,0)) (by (with_reducible repeat (first|refine blk_drewN ?_ _|refine blk_drew ?_|refine blk_alloc ?_ _));exact BK120.out) hb)
              have n1_:=Aside0.mk (blk_below (g:=gb121) (o:=.cells #[.int .i64 (wrap64 ((wrap64 (1 + t117)) + 1)),.int .i64 t118,.int .i64 t119,.int .u32 0] 25 (0,0)) (by (with_reducible repeat (first|refine blk_drewN ?_ _|refine blk_drew ?_|refine blk_alloc ?_ _));exact BK121.out) hb)
              have n2_:=Aside0.mk (blk_below (g:=gb122) (o:=.cells #[.int .i64 (wrap64 (1 + t117)),.int .i64 (wrap64 (t118 + 1)),.int .i64 t119,.int .u32 0] 25 (0,0)) (by (with_reducible repeat (first|refine blk_drewN ?_ _|refine blk_drew ?_|refine blk_alloc ?_ _));exact BK122.out) hb)
              have n3_:=Aside0.mk (blk_below (g:=gb123) (o:=.cells #[.int .i64 (wrap64 (1 + t117)),.int .i64 t118,.int .i64 (wrap64 (t119 + 1)),.int .u32 0] 25 (0,0)) (by (with_reducible repeat (first|refine blk_drewN ?_ _|refine blk_drew ?_|refine blk_alloc ?_ _));exact BK123.out) hb)
              have n4_:=Aside0.mk (below_step (by repeat (first|(with_reducible first|exact HB.out|apply below_alloc|apply pw_below_drewN|apply below_drew1|refine below_set ?_ GE120.out|refine below_set ?_ GE121.out|refine below_set ?_ GE122.out|refine below_set ?_ GE123.out)|exact HB.out)) hb)
              clear BK120
              clear BK121
              clear BK122
              clear BK123
              clear HB
              have BK120:=n0_
              have BK121:=n1_
              have BK122:=n2_
              have BK123:=n3_
              have HB:=n4_
              clear n0_ n1_ n2_ n3_ n4_
              (try clear hb)
              (try clear hb2)
              (try clear hk)
              (try clear hi)
              refine hK.out _ _ ⟨(blk_cell BK121.out 0).trans rfl,(blk_cell BK121.out 1).trans rfl,(blk_cell BK121.out 2).trans rfl,(blk_cell BK121.out 3).trans rfl,(blk_cell BK120.out 0).trans rfl,(blk_cell BK120.out 1).trans rfl,(blk_cell BK120.out 2).trans rfl,(blk_cell BK120.out 3).trans rfl,(blk_cell BK122.out 0).trans rfl,(blk_cell BK122.out 1).trans rfl,(blk_cell BK122.out 2).trans rfl,(blk_cell BK122.out 3).trans rfl,(blk_cell BK123.out 0).trans rfl,(blk_cell BK123.out 1).trans rfl,(blk_cell BK123.out 2).trans rfl,(blk_cell BK123.out 3).trans rfl⟩ (fun hHeld=>?_)
              clear hK K
              refine norm_ (a':=?_) ?_ ?_
              rotate_left
              ·show Act.put _ (some 115) _ = _
               simp only [Act.put,List.setIfInBounds_toArray,List.set_cons_zero,List.set_cons_succ,i64_w,i32_w]
               rfl
              refine pure_ (i:=15) (N:=some 116) (v:=?_) (a':=?_) #[true,true,true,true,true,true,true,true,true,true,true,true,true,true,true,true,false,false,false,false,false,false,false,false,false,false] rfl rfl (any_of HT_.out (by kernel_rfl)) (fun _ _ _ h=>h) (Or.inl ⟨by rfl,?_⟩) ?_ ?_
              rotate_left
              ·intro w'
               go_simp
               with_reducible rfl
              rotate_left
              ·simp only [Act.put,List.setIfInBounds_toArray,List.set_cons_zero,List.set_cons_succ,i64_w,i32_w]
               rfl
              refine pure_ (i:=16) (N:=some 117) (v:=?_) (a':=?_) #[true,true,true,true,true,true,true,true,true,true,true,true,true,true,true,true,true,false,false,false,false,false,false,false,false,false] rfl rfl (any_of HT_.out (by kernel_rfl)) (fun _ _ _ h=>h) (Or.inl ⟨by rfl,?_⟩) ?_ ?_
              rotate_left
              ·intro w'
               go_simp
               with_reducible rfl
              rotate_left
              ·simp only [Act.put,List.setIfInBounds_toArray,List.set_cons_zero,List.set_cons_succ,i64_w,i32_w]
               rfl
              refine pure_ (i:=17) (N:=some 118) (v:=?_) (a':=?_) #[true,true,true,true,true,true,true,true,true,true,true,true,true,true,true,true,true,true,false,false,false,false,false,false,false,false] rfl rfl (any_of HT_.out (by kernel_rfl)) (fun _ _ _ h=>h) (Or.inl ⟨by rfl,?_⟩) ?_ ?_
              rotate_left
              ·intro w'
               go_simp
               with_reducible rfl
              rotate_left
              ·simp only [Act.put,List.setIfInBounds_toArray,List.set_cons_zero,List.set_cons_succ,i64_w,i32_w]
               rfl
              refine pure_ (i:=19) (N:=some 120) (v:=?_) (a':=?_) #[true,true,true,true,true,true,true,true,true,true,true,true,true,true,true,true,true,true,false,true,false,false,false,false,false,false] rfl rfl (any_of HT_.out (by kernel_rfl)) (fun _ _ _ h=>h) (Or.inl ⟨by rfl,?_⟩) ?_ ?_
              rotate_left
              ·intro w'
               go_simp
               with_reducible rfl
              rotate_left
              ·simp only [Act.put,List.setIfInBounds_toArray,List.set_cons_zero,List.set_cons_succ,i64_w,i32_w]
               rfl
              refine pure_ (i:=22) (N:=some 123) (v:=?_) (a':=?_) #[true,true,true,true,true,true,true,true,true,true,true,true,true,true,true,true,true,true,false,true,false,false,true,false,false,false] rfl rfl (any_of HT_.out (by kernel_rfl)) (fun _ _ _ h=>h) (Or.inl ⟨by rfl,?_⟩) ?_ ?_
              rotate_left
              ·intro w'
               go_simp
               with_reducible rfl
              rotate_left
              ·simp only [Act.put,List.setIfInBounds_toArray,List.set_cons_zero,List.set_cons_succ,i64_w,i32_w]
               rfl
              refine take_ (i:=18) (N:=some 119) (v:=?_) (a':=?_) #[true,true,true,true,true,true,true,true,true,true,true,true,true,true,true,true,true,true,true,true,false,false,true,false,false,false] rfl rfl (take_ofW HT_.out HW_.out (by kernel_rfl)) (fun _ _ _ h=>h) (Or.inl ⟨by rfl,?_⟩) hHeld ?_ ?_
              rotate_left
              ·rintro w' ⟨s0,s1,s2,s3,s4,s5,s6,s7,s8,s9,s10,s11,s12,s13,s14,s15⟩
               go_simp
               with_reducible rfl
              rotate_left
              ·simp only [Act.put,List.setIfInBounds_toArray,List.set_cons_zero,List.set_cons_succ,i64_w,i32_w]
               rfl
              refine take_ (i:=21) (N:=some 122) (v:=?_) (a':=?_) #[true,true,true,true,true,true,true,true,true,true,true,true,true,true,true,true,true,true,true,true,false,true,true,false,false,false] rfl rfl (take_ofW HT_.out HW_.out (by kernel_rfl)) (fun _ _ _ h=>h) (Or.inl ⟨by rfl,?_⟩) hHeld ?_ ?_
              rotate_left
              ·rintro w' ⟨s0,s1,s2,s3,s4,s5,s6,s7,s8,s9,s10,s11,s12,s13,s14,s15⟩
               go_simp
               with_reducible rfl
              rotate_left
              ·simp only [Act.put,List.setIfInBounds_toArray,List.set_cons_zero,List.set_cons_succ,i64_w,i32_w]
               rfl
              refine one_ (i:=20) (N:=some 121) #[true,true,true,true,true,true,true,true,true,true,true,true,true,true,true,true,true,true,true,true,true,true,true,false,false,false] rfl rfl (one_of HT_.out (by kernel_rfl)) (by decide) (fun K hK=>?_)
              refine goes_ Try.func16 (by kernel_rfl) rfl #[.agg #[.int .i64 (wrap64 (1 + t117)),.int .i64 t118,.int .i64 (wrap64 (t119 + 1)),.int .u32 0],.int .i64 x13_3] (by rfl) rfl rfl (by (try simp only [List.map_toArray,List.map_cons,List.map_nil]);first|done|rfl|(simp only [List.length_drop,List.length_take];rfl)) ?_
              with_reducible refine (layout_Config_Slot.calls (wrap64 (1 + t117)) t118 (wrap64 (t119 + 1)) 0 x13_3 t140 _ A86.out).mono ?_
              rintro e w98 ⟨rfl,hb⟩
              refine ⟨_,rfl,?_⟩
              have n0_:=Aside0.mk (blk_below (g:=gb120) (o:=.cells #[.int .i64 (wrap64 (1 + t117)),.int .i64 t118,.int .i64 t119,.int .u32 0] 25 (0,0)) (by (with_reducible repeat (first|refine blk_drewN ?_ _|refine blk_drew ?_|refine blk_alloc ?_ _));exact BK120.out) hb)
              have n1_:=Aside0.mk (blk_below (g:=gb121) (o:=.cells #[.int .i64 (wrap64 ((wrap64 (1 + t117)) + 1)),.int .i64 t118,.int .i64 t119,.int .u32 0] 25 (0,0)) (by (with_reducible repeat (first|refine blk_drewN ?_ _|refine blk_drew ?_|refine blk_alloc ?_ _));exact BK121.out) hb)
              have n2_:=Aside0.mk (blk_below (g:=gb122) (o:=.cells #[.int .i64 (wrap64 (1 + t117)),.int .i64 (wrap64 (t118 + 1)),.int .i64 t119,.int .u32 0] 25 (0,0)) (by (with_reducible repeat (first|refine blk_drewN ?_ _|refine blk_drew ?_|refine blk_alloc ?_ _));exact BK122.out) hb)
              have n3_:=Aside0.mk (blk_below (g:=gb123) (o:=.cells #[.int .i64 (wrap64 (1 + t117)),.int .i64 t118,.int .i64 (wrap64 (t119 + 1)),.int .u32 0] 25 (0,0)) (by (with_reducible repeat (first|refine blk_drewN ?_ _|refine blk_drew ?_|refine blk_alloc ?_ _));exact BK123.out) hb)
              have n4_:=Aside0.mk (below_step (by repeat (first|(with_reducible first|exact HB.out|apply below_alloc|apply pw_below_drewN|apply below_drew1|refine below_set ?_ GE120.out|refine below_set ?_ GE121.out|refine below_set ?_ GE122.out|refine below_set ?_ GE123.out)|exact HB.out)) hb)
              clear BK120
              clear BK121
              clear BK122
              clear BK123
              clear HB
              have BK120:=n0_
              have BK121:=n1_
              have BK122:=n2_
              have BK123:=n3_
              have HB:=n4_
              clear n0_ n1_ n2_ n3_ n4_
              (try clear hb)
              (try clear hb2)
              (try clear hk)
              (try clear hi)
              refine hK.out _ _ ⟨(blk_cell BK121.out 0).trans rfl,(blk_cell BK121.out 1).trans rfl,(blk_cell BK121.out 2).trans rfl,(blk_cell BK121.out 3).trans rfl,(blk_cell BK120.out 0).trans rfl,(blk_cell BK120.out 1).trans rfl,(blk_cell BK120.out 2).trans rfl,(blk_cell BK120.out 3).trans rfl,(blk_cell BK122.out 0).trans rfl,(blk_cell BK122.out 1).trans rfl,(blk_cell BK122.out 2).trans rfl,(blk_cell BK122.out 3).trans rfl,(blk_cell BK123.out 0).trans rfl,(blk_cell BK123.out 1).trans rfl,(blk_cell BK123.out 2).trans rfl,(blk_cell BK123.out 3).trans rfl⟩ (fun hHeld=>?_)
              clear hK K
              refine norm_ (a':=?_) ?_ ?_
              rotate_left
              ·show Act.put _ (some 121) _ = _
               simp only [Act.put,List.setIfInBounds_toArray,List.set_cons_zero,List.set_cons_succ,i64_w,i32_w]
               rfl
              refine one_ (i:=23) (N:=some 124) #[true,true,true,true,true,true,true,true,true,true,true,true,true,true,true,true,true,true,true,true,true,true,true,true,false,false] rfl rfl (one_of HT_.out (by kernel_rfl)) (by decide) (fun K hK=>?_)
              refine goes_ Try.func16 (by kernel_rfl) rfl #[.agg #[.int .i64 (wrap64 (1 + t117)),.int .i64 t118,.int .i64 t119,.int .u32 0],.int .i64 x13_3] (by rfl) rfl rfl (by (try simp only [List.map_toArray,List.map_cons,List.map_nil]);first|done|rfl|(simp only [List.length_drop,List.length_take];rfl)) ?_
              with_reducible refine (layout_Config_Slot.calls (wrap64 (1 + t117)) t118 t119 0 x13_3 t141 _ A87.out).mono ?_
              rintro e w99 ⟨rfl,hb⟩
              refine ⟨_,rfl,?_⟩
              have n0_:=Aside0.mk (blk_below (g:=gb120) (o:=.cells #[.int .i64 (wrap64 (1 + t117)),.int .i64 t118,.int .i64 t119,.int .u32 0] 25 (0,0)) (by (with_reducible repeat (first|refine blk_drewN ?_ _|refine blk_drew ?_|refine blk_alloc ?_ _));exact BK120.out) hb)
              have n1_:=Aside0.mk (blk_below (g:=gb121) (o:=.cells #[.int .i64 (wrap64 ((wrap64 (1 + t117)) + 1)),.int .i64 t118,.int .i64 t119,.int .u32 0] 25 (0,0)) (by (with_reducible repeat (first|refine blk_drewN ?_ _|refine blk_drew ?_|refine blk_alloc ?_ _));exact BK121.out) hb)
              have n2_:=Aside0.mk (blk_below (g:=gb122) (o:=.cells #[.int .i64 (wrap64 (1 + t117)),.int .i64 (wrap64 (t118 + 1)),.int .i64 t119,.int .u32 0] 25 (0,0)) (by (with_reducible repeat (first|refine blk_drewN ?_ _|refine blk_drew ?_|refine blk_alloc ?_ _));exact BK122.out) hb)
              have n3_:=Aside0.mk (blk_below (g:=gb123) (o:=.cells #[.int .i64 (wrap64 (1 + t117)),.int .i64 t118,.int .i64 (wrap64 (t119 + 1)),.int .u32 0] 25 (0,0)) (by (with_reducible repeat (first|refine blk_drewN ?_ _|refine blk_drew ?_|refine blk_alloc ?_ _));exact BK123.out) hb)
              have n4_:=Aside0.mk (below_step (by repeat (first|(with_reducible first|exact HB.out|apply below_alloc|apply pw_below_drewN|apply below_drew1|refine below_set ?_ GE120.out|refine below_set ?_ GE121.out|refine below_set ?_ GE122.out|refine below_set ?_ GE123.out)|exact HB.out)) hb)
              clear BK120
              clear BK121
              clear BK122
              clear BK123
              clear HB
              have BK120:=n0_
              have BK121:=n1_
              have BK122:=n2_
              have BK123:=n3_
              have HB:=n4_
              clear n0_ n1_ n2_ n3_ n4_
              (try clear hb)
              (try clear hb2)
              (try clear hk)
              (try clear hi)
              refine hK.out _ _ ⟨(blk_cell BK121.out 0).trans rfl,(blk_cell BK121.out 1).trans rfl,(blk_cell BK121.out 2).trans rfl,(blk_cell BK121.out 3).trans rfl,(blk_cell BK120.out 0).trans rfl,(blk_cell BK120.out 1).trans rfl,(blk_cell BK120.out 2).trans rfl,(blk_cell BK120.out 3).trans rfl,(blk_cell BK122.out 0).trans rfl,(blk_cell BK122.out 1).trans rfl,(blk_cell BK122.out 2).trans rfl,(blk_cell BK122.out 3).trans rfl,(blk_cell BK123.out 0).trans rfl,(blk_cell BK123.out 1).trans rfl,(blk_cell BK123.out 2).trans rfl,(blk_cell BK123.out 3).trans rfl⟩ (fun hHeld=>?_)
              clear hK K
              refine norm_ (a':=?_) ?_ ?_
              rotate_left
              ·show Act.put _ (some 124) _ = _
               simp only [Act.put,List.setIfInBounds_toArray,List.set_cons_zero,List.set_cons_succ,i64_w,i32_w]
               rfl
              refine pure_ (i:=24) (N:=some 125) (v:=?_) (a':=?_) #[true,true,true,true,true,true,true,true,true,true,true,true,true,true,true,true,true,true,true,true,true,true,true,true,true,false] rfl rfl (any_of HT_.out (by kernel_rfl)) (fun _ _ _ h=>h) (Or.inl ⟨by rfl,?_⟩) ?_ ?_
              rotate_left
              ·intro w'
               go_simp
               with_reducible rfl
              rotate_left
              ·simp only [Act.put,List.setIfInBounds_toArray,List.set_cons_zero,List.set_cons_succ,i64_w,i32_w]
               rfl
              refine pure_ (i:=25) (N:=some 126) (v:=?_) (a':=?_) #[true,true,true,true,true,true,true,true,true,true,true,true,true,true,true,true,true,true,true,true,true,true,true,true,true,true] rfl rfl (any_of HT_.out (by kernel_rfl)) (fun _ _ _ h=>h) (Or.inl ⟨by rfl,?_⟩) ?_ ?_
              rotate_left
              ·intro w'
               go_simp
               with_reducible rfl
              rotate_left
              ·simp only [Act.put,List.setIfInBounds_toArray,List.set_cons_zero,List.set_cons_succ,i64_w,i32_w]
               rfl
              refine done_ (done_of HT_.out (by kernel_rfl)) ?_
              try go_wp2
              go_roundg k3
              case measure=>have:=HJ8.out;have:=HK2.out;have:=HK3.out;omega
              case rel=>exact ⟨(wrap64 (x13_3 + 1)),(by first|rfl|(simp;done)|(simp [*];done)),H',⟨by have:=HJ8.out;have:=HK2.out;have:=HK3.out;omega⟩,⟨by (with_reducible repeat (first|refine blk_drewN ?_ _|refine blk_drew ?_|refine blk_alloc ?_ _));exact BK120.out⟩,⟨by (with_reducible repeat (first|refine blk_drewN ?_ _|refine blk_drew ?_|refine blk_alloc ?_ _));exact BK121.out⟩,⟨by (with_reducible repeat (first|refine blk_drewN ?_ _|refine blk_drew ?_|refine blk_alloc ?_ _));exact BK122.out⟩,⟨by (with_reducible repeat (first|refine blk_drewN ?_ _|refine blk_drew ?_|refine blk_alloc ?_ _));exact BK123.out⟩,⟨by repeat (first|(with_reducible first|exact HB.out|apply below_alloc|apply pw_below_drewN|apply below_drew1|refine below_set ?_ GE120.out|refine below_set ?_ GE121.out|refine below_set ?_ GE122.out|refine below_set ?_ GE123.out)|exact HB.out)⟩⟩
             ·rw [if_neg c88] at H
              have c88b0 : (t140 == t141) = false:=beq_eq_false_iff_ne.mpr c88
              have c88b1 : (t140 != t141) = true:=bne_iff_ne.mpr c88
              exact absurd ((Option.some.inj H).trans hT_) (by decide)
            ·rw [if_neg c85] at H
             have c85b0 : (t138 == t139) = false:=beq_eq_false_iff_ne.mpr c85
             have c85b1 : (t138 != t139) = true:=bne_iff_ne.mpr c85
             exact absurd ((Option.some.inj H).trans hT_) (by decide)
           ·rw [if_neg c82] at H
            have c82b0 : (t136 == (wrap64 (t137 + 2))) = false:=beq_eq_false_iff_ne.mpr c82
            have c82b1 : (t136 != (wrap64 (t137 + 2))) = true:=bne_iff_ne.mpr c82
            exact absurd ((Option.some.inj H).trans hT_) (by decide)
          ·rw [if_neg c79] at H
           have c79b0 : decide (x13_3 < t118) = false:=decide_eq_false c79
           clear c79
           have H':=Aside0.mk H
           clear H
           have hnb100:=NB120_121.out
           have hnc100:=NB121_120.out
           have hnb101:=NB120_122.out
           have hnc101:=NB122_120.out
           have hnb102:=NB120_123.out
           have hnc102:=NB123_120.out
           have hcz103_0 : wr.cell? ⟨gb120,0,none⟩ = some (.int .i64 (wrap64 (1 + t117))):=(blk_cell BK120.out 0).trans rfl
           have hcz103_1 : wr.cell? ⟨gb120,1,none⟩ = some (.int .i64 t118):=(blk_cell BK120.out 1).trans rfl
           have hcz103_2 : wr.cell? ⟨gb120,2,none⟩ = some (.int .i64 t119):=(blk_cell BK120.out 2).trans rfl
           have hcz103_3 : wr.cell? ⟨gb120,3,none⟩ = some (.int .u32 0):=(blk_cell BK120.out 3).trans rfl
           have hfz103_0:=blk_frozen BK120.out 0
           have hfz103_1:=blk_frozen BK120.out 1
           have hfz103_2:=blk_frozen BK120.out 2
           have hfz103_3:=blk_frozen BK120.out 3
           go_wp2
           go_loopg [14] k3 (fun kq v14 w'=>∃ (x14_4 : Int),v14 = .int .i64 x14_4∧Aside0 (hatstandlaw6_LayoutGrows.l2 kq x14_4 (wrap64 (1 + t117)) t118 t119 0 (wrap64 ((wrap64 (1 + t117)) + 1)) t118 t119 0 (wrap64 (1 + t117)) (wrap64 (t118 + 1)) t119 0 (wrap64 (1 + t117)) t118 (wrap64 (t119 + 1)) 0 = some r)∧Aside0 (kq ≤ k3)∧Aside0 (w'.heap[gb120]? = some (.cells #[.int .i64 (wrap64 (1 + t117)),.int .i64 t118,.int .i64 t119,.int .u32 0] 25 (0,0)))∧Aside0 (w'.heap[gb121]? = some (.cells #[.int .i64 (wrap64 ((wrap64 (1 + t117)) + 1)),.int .i64 t118,.int .i64 t119,.int .u32 0] 25 (0,0)))∧Aside0 (w'.heap[gb122]? = some (.cells #[.int .i64 (wrap64 (1 + t117)),.int .i64 (wrap64 (t118 + 1)),.int .i64 t119,.int .u32 0] 25 (0,0)))∧Aside0 (w'.heap[gb123]? = some (.cells #[.int .i64 (wrap64 (1 + t117)),.int .i64 t118,.int .i64 (wrap64 (t119 + 1)),.int .u32 0] 25 (0,0)))∧Aside0 (Below w.heap.size w w'))
           case atStart=>exact ⟨(0),(by first|rfl|(simp;done)|(simp [*];done)),H',⟨Nat.le_refl _⟩,⟨by (with_reducible repeat (first|refine blk_drewN ?_ _|refine blk_drew ?_|refine blk_alloc ?_ _));exact BK120.out⟩,⟨by (with_reducible repeat (first|refine blk_drewN ?_ _|refine blk_drew ?_|refine blk_alloc ?_ _));exact BK121.out⟩,⟨by (with_reducible repeat (first|refine blk_drewN ?_ _|refine blk_drew ?_|refine blk_alloc ?_ _));exact BK122.out⟩,⟨by (with_reducible repeat (first|refine blk_drewN ?_ _|refine blk_drew ?_|refine blk_alloc ?_ _));exact BK123.out⟩,⟨by repeat (first|(with_reducible first|exact HB.out|apply below_alloc|apply pw_below_drewN|apply below_drew1|refine below_set ?_ GE120.out|refine below_set ?_ GE121.out|refine below_set ?_ GE122.out|refine below_set ?_ GE123.out)|exact HB.out)⟩⟩
           case round =>
            clear H'
            try clear c1
            try clear c2
            try clear p2
            try clear c3
            try clear c5
            try clear c6
            try clear p6
            try clear c7
            try clear c8
            try clear c9
            try clear c10
            try clear c14
            try clear c15
            try clear c16
            try clear c18
            try clear c29
            try clear c29b0
            try clear c29b1
            try clear c32
            try clear c32b0
            try clear c32b1
            try clear c53
            try clear c54
            try clear c54b0
            try clear c57
            try clear c57b0
            try clear c57b1
            try clear c60
            try clear c60b0
            try clear c60b1
            try clear c63
            try clear c63b0
            try clear c63b1
            try clear c64
            try clear p64
            try clear c65
            try clear c66
            try clear c75
            try clear c76
            try clear c77
            try clear c79
            try clear c79b0
            try clear c82
            try clear c82b0
            try clear c82b1
            try clear c85
            try clear c85b0
            try clear c85b1
            try clear c88
            try clear c88b0
            try clear c88b1
            try clear c89
            try clear c90
            try clear c91
            try clear c100
            try clear c101
            try clear c102
            try clear hcz103_0
            try clear hcz103_1
            try clear hcz103_2
            try clear hcz103_3
            try clear hcz67_0
            try clear hcz67_1
            try clear hcz67_2
            try clear hcz67_3
            try clear hcz78_0
            try clear hcz78_1
            try clear hcz78_2
            try clear hcz78_3
            try clear hcz92_0
            try clear hcz92_1
            try clear hcz92_2
            try clear hcz92_3
            try clear hfz103_0
            try clear hfz103_1
            try clear hfz103_2
            try clear hfz103_3
            try clear hfz67_0
            try clear hfz67_1
            try clear hfz67_2
            try clear hfz67_3
            try clear hfz78_0
            try clear hfz78_1
            try clear hfz78_2
            try clear hfz78_3
            try clear hfz92_0
            try clear hfz92_1
            try clear hfz92_2
            try clear hfz92_3
            try clear p2
            try clear p6
            try clear p64
            obtain ⟨x14_4,rfl,HA,HK4,BK120,BK121,BK122,BK123,HB⟩:=hrel
            cases gk with
           |zero=>exact absurd HA.out (by simp [hatstandlaw6_LayoutGrows.l2])
           |succ k4 =>
             have H:=HA.out
             clear HA
             simp only [hatstandlaw6_LayoutGrows.l2] at H
             by_cases c104 : x14_4 < t119
             ·rw [if_pos c104] at H
              have c104b0 : decide (x14_4 < t119) = true:=decide_eq_true c104
              clear c104
              replace H:=Option.bind_eq_some_iff.mp H
              obtain ⟨t142,A1050,H⟩:=H
              replace H : ((layout_Config_Holder.f (wrap64 (1 + t117)) t118 t119 0 x14_4).bind fun t143=>(if t142 = (wrap64 (t143 + 2)) then ((layout_Config_Holder.f (wrap64 (1 + t117)) (wrap64 (t118 + 1)) t119 0 x14_4).bind fun t144=>((layout_Config_Holder.f (wrap64 (1 + t117)) t118 t119 0 x14_4).bind fun t145=>(if t144 = (wrap64 (t145 + 1)) then ((layout_Config_Holder.f (wrap64 (1 + t117)) t118 (wrap64 (t119 + 1)) 0 x14_4).bind fun t146=>((layout_Config_Holder.f (wrap64 (1 + t117)) t118 t119 0 x14_4).bind fun t147=>(if t146 = t147 then (hatstandlaw6_LayoutGrows.l2 k4 (wrap64 (x14_4 + 1)) (wrap64 (1 + t117)) t118 t119 0 (wrap64 ((wrap64 (1 + t117)) + 1)) t118 t119 0 (wrap64 (1 + t117)) (wrap64 (t118 + 1)) t119 0 (wrap64 (1 + t117)) t118 (wrap64 (t119 + 1)) 0) else (some false)))) else (some false)))) else (some false))) = some r:=H
              have A105:=Aside0.mk A1050
              clear A1050
              replace H:=Option.bind_eq_some_iff.mp H
              obtain ⟨t143,A1060,H⟩:=H
              replace H : (if t142 = (wrap64 (t143 + 2)) then ((layout_Config_Holder.f (wrap64 (1 + t117)) (wrap64 (t118 + 1)) t119 0 x14_4).bind fun t144=>((layout_Config_Holder.f (wrap64 (1 + t117)) t118 t119 0 x14_4).bind fun t145=>(if t144 = (wrap64 (t145 + 1)) then ((layout_Config_Holder.f (wrap64 (1 + t117)) t118 (wrap64 (t119 + 1)) 0 x14_4).bind fun t146=>((layout_Config_Holder.f (wrap64 (1 + t117)) t118 t119 0 x14_4).bind fun t147=>(if t146 = t147 then (hatstandlaw6_LayoutGrows.l2 k4 (wrap64 (x14_4 + 1)) (wrap64 (1 + t117)) t118 t119 0 (wrap64 ((wrap64 (1 + t117)) + 1)) t118 t119 0 (wrap64 (1 + t117)) (wrap64 (t118 + 1)) t119 0 (wrap64 (1 + t117)) t118 (wrap64 (t119 + 1)) 0) else (some false)))) else (some false)))) else (some false)) = some r:=H
              have A106:=Aside0.mk A1060
              clear A1060
              by_cases c107 : t142 = (wrap64 (t143 + 2))
              ·rw [if_pos c107] at H
               have c107b0 : (t142 == (wrap64 (t143 + 2))) = true:=beq_iff_eq.mpr c107
               have c107b1 : (t142 != (wrap64 (t143 + 2))) = false:=bne_eq_false_iff_eq.mpr c107
               clear c107
               replace H:=Option.bind_eq_some_iff.mp H
               obtain ⟨t144,A1080,H⟩:=H
               replace H : ((layout_Config_Holder.f (wrap64 (1 + t117)) t118 t119 0 x14_4).bind fun t145=>(if t144 = (wrap64 (t145 + 1)) then ((layout_Config_Holder.f (wrap64 (1 + t117)) t118 (wrap64 (t119 + 1)) 0 x14_4).bind fun t146=>((layout_Config_Holder.f (wrap64 (1 + t117)) t118 t119 0 x14_4).bind fun t147=>(if t146 = t147 then (hatstandlaw6_LayoutGrows.l2 k4 (wrap64 (x14_4 + 1)) (wrap64 (1 + t117)) t118 t119 0 (wrap64 ((wrap64 (1 + t117)) + 1)) t118 t119 0 (wrap64 (1 + t117)) (wrap64 (t118 + 1)) t119 0 (wrap64 (1 + t117)) t118 (wrap64 (t119 + 1)) 0) else (some false)))) else (some false))) = some r:=H
               have A108:=Aside0.mk A1080
               clear A1080
               replace H:=Option.bind_eq_some_iff.mp H
               obtain ⟨t145,A1090,H⟩:=H
               replace H : (if t144 = (wrap64 (t145 + 1)) then ((layout_Config_Holder.f (wrap64 (1 + t117)) t118 (wrap64 (t119 + 1)) 0 x14_4).bind fun t146=>((layout_Config_Holder.f (wrap64 (1 + t117)) t118 t119 0 x14_4).bind fun t147=>(if t146 = t147 then (hatstandlaw6_LayoutGrows.l2 k4 (wrap64 (x14_4 + 1)) (wrap64 (1 + t117)) t118 t119 0 (wrap64 ((wrap64 (1 + t117)) + 1)) t118 t119 0 (wrap64 (1 + t117)) (wrap64 (t118 + 1)) t119 0 (wrap64 (1 + t117)) t118 (wrap64 (t119 + 1)) 0) else (some false)))) else (some false)) = some r:=H
               have A109:=Aside0.mk A1090
               clear A1090
               by_cases c110 : t144 = (wrap64 (t145 + 1))
               ·rw [if_pos c110] at H
                have c110b0 : (t144 == (wrap64 (t145 + 1))) = true:=beq_iff_eq.mpr c110
                have c110b1 : (t144 != (wrap64 (t145 + 1))) = false:=bne_eq_false_iff_eq.mpr c110
                clear c110
                replace H:=Option.bind_eq_some_iff.mp H
                obtain ⟨t146,A1110,H⟩:=H
                replace H : ((layout_Config_Holder.f (wrap64 (1 + t117)) t118 t119 0 x14_4).bind fun t147=>(if t146 = t147 then (hatstandlaw6_LayoutGrows.l2 k4 (wrap64 (x14_4 + 1)) (wrap64 (1 + t117)) t118 t119 0 (wrap64 ((wrap64 (1 + t117)) + 1)) t118 t119 0 (wrap64 (1 + t117)) (wrap64 (t118 + 1)) t119 0 (wrap64 (1 + t117)) t118 (wrap64 (t119 + 1)) 0) else (some false))) = some r:=H
                have A111:=Aside0.mk A1110
                clear A1110
                replace H:=Option.bind_eq_some_iff.mp H
                obtain ⟨t147,A1120,H⟩:=H
                replace H : (if t146 = t147 then (hatstandlaw6_LayoutGrows.l2 k4 (wrap64 (x14_4 + 1)) (wrap64 (1 + t117)) t118 t119 0 (wrap64 ((wrap64 (1 + t117)) + 1)) t118 t119 0 (wrap64 (1 + t117)) (wrap64 (t118 + 1)) t119 0 (wrap64 (1 + t117)) t118 (wrap64 (t119 + 1)) 0) else (some false)) = some r:=H
                have A112:=Aside0.mk A1120
                clear A1120
                by_cases c113 : t146 = t147
                ·rw [if_pos c113] at H
                 have c113b0 : (t146 == t147) = true:=beq_iff_eq.mpr c113
                 have c113b1 : (t146 != t147) = false:=bne_eq_false_iff_eq.mpr c113
                 clear c113
                 have H':=Aside0.mk H
                 clear H
                 have hnb114:=NB120_121.out
                 have hnc114:=NB121_120.out
                 have hnb115:=NB120_122.out
                 have hnc115:=NB122_120.out
                 have hnb116:=NB120_123.out
                 have hnc116:=NB123_120.out
                 have hcz117_0 : wr.cell? ⟨gb120,0,none⟩ = some (.int .i64 (wrap64 (1 + t117))):=(blk_cell BK120.out 0).trans rfl
                 have hcz117_1 : wr.cell? ⟨gb120,1,none⟩ = some (.int .i64 t118):=(blk_cell BK120.out 1).trans rfl
                 have hcz117_2 : wr.cell? ⟨gb120,2,none⟩ = some (.int .i64 t119):=(blk_cell BK120.out 2).trans rfl
                 have hcz117_3 : wr.cell? ⟨gb120,3,none⟩ = some (.int .u32 0):=(blk_cell BK120.out 3).trans rfl
                 have hfz117_0:=blk_frozen BK120.out 0
                 have hfz117_1:=blk_frozen BK120.out 1
                 have hfz117_2:=blk_frozen BK120.out 2
                 have hfz117_3:=blk_frozen BK120.out 3
                 try go_wp2
                 have n0_:=Aside0.mk (blk_drew BK120.out)
                 have n1_:=Aside0.mk (blk_drew BK121.out)
                 have n2_:=Aside0.mk (blk_drew BK122.out)
                 have n3_:=Aside0.mk (blk_drew BK123.out)
                 have n4_:=Aside0.mk (below_drew1 HB.out)
                 clear BK120
                 clear BK121
                 clear BK122
                 clear BK123
                 clear HB
                 have BK120:=n0_
                 have BK121:=n1_
                 have BK122:=n2_
                 have BK123:=n3_
                 have HB:=n4_
                 clear n0_ n1_ n2_ n3_ n4_
                 refine start_ (n:=27) (S:=fun w'=>w'.cell? ⟨gb121,0,none⟩ = some (.int .i64 (wrap64 ((wrap64 (1 + t117)) + 1)))∧w'.cell? ⟨gb121,1,none⟩ = some (.int .i64 t118)∧w'.cell? ⟨gb121,2,none⟩ = some (.int .i64 t119)∧w'.cell? ⟨gb121,3,none⟩ = some (.int .u32 0)∧w'.cell? ⟨gb120,0,none⟩ = some (.int .i64 (wrap64 (1 + t117)))∧w'.cell? ⟨gb120,1,none⟩ = some (.int .i64 t118)∧w'.cell? ⟨gb120,2,none⟩ = some (.int .i64 t119)∧w'.cell? ⟨gb120,3,none⟩ = some (.int .u32 0)∧w'.cell? ⟨gb122,0,none⟩ = some (.int .i64 (wrap64 (1 + t117)))∧w'.cell? ⟨gb122,1,none⟩ = some (.int .i64 (wrap64 (t118 + 1)))∧w'.cell? ⟨gb122,2,none⟩ = some (.int .i64 t119)∧w'.cell? ⟨gb122,3,none⟩ = some (.int .u32 0)∧w'.cell? ⟨gb123,0,none⟩ = some (.int .i64 (wrap64 (1 + t117)))∧w'.cell? ⟨gb123,1,none⟩ = some (.int .i64 t118)∧w'.cell? ⟨gb123,2,none⟩ = some (.int .i64 (wrap64 (t119 + 1)))∧w'.cell? ⟨gb123,3,none⟩ = some (.int .u32 0)) (ds:=[]) #[false,false,false,false,false,false,false,false,false,false,false,false,false,false,false,false,false,false,false,false,false,false,false,false,false,false,false] (by kernel_rfl) rfl rfl ⟨(blk_cell BK121.out 0).trans rfl,(blk_cell BK121.out 1).trans rfl,(blk_cell BK121.out 2).trans rfl,(blk_cell BK121.out 3).trans rfl,(blk_cell BK120.out 0).trans rfl,(blk_cell BK120.out 1).trans rfl,(blk_cell BK120.out 2).trans rfl,(blk_cell BK120.out 3).trans rfl,(blk_cell BK122.out 0).trans rfl,(blk_cell BK122.out 1).trans rfl,(blk_cell BK122.out 2).trans rfl,(blk_cell BK122.out 3).trans rfl,(blk_cell BK123.out 0).trans rfl,(blk_cell BK123.out 1).trans rfl,(blk_cell BK123.out 2).trans rfl,(blk_cell BK123.out 3).trans rfl⟩ (fun hHeld=>?_);refine with_tabW hatstandlaw6_LayoutGrows.tab26 hatstandlaw6_LayoutGrows.bits26 (fun HT_ HW_=>?_)
                 generalize wr.drew = w118 at BK120 BK121 BK122 BK123 HB hHeld ⊢
                 refine pure_ (i:=1) (N:=some 134) (v:=?_) (a':=?_) #[false,true,false,false,false,false,false,false,false,false,false,false,false,false,false,false,false,false,false,false,false,false,false,false,false,false,false] rfl rfl (any_of HT_.out (by kernel_rfl)) (fun _ _ _ h=>h) (Or.inl ⟨by rfl,?_⟩) ?_ ?_
                 rotate_left
                 ·intro w'
                  go_simp
                  with_reducible rfl
                 rotate_left
                 ·simp only [Act.put,List.setIfInBounds_toArray,List.set_cons_zero,List.set_cons_succ,i64_w,i32_w]
                  rfl
                 refine pure_ (i:=4) (N:=some 137) (v:=?_) (a':=?_) #[false,true,false,false,true,false,false,false,false,false,false,false,false,false,false,false,false,false,false,false,false,false,false,false,false,false,false] rfl rfl (any_of HT_.out (by kernel_rfl)) (fun _ _ _ h=>h) (Or.inl ⟨by rfl,?_⟩) ?_ ?_
                 rotate_left
                 ·intro w'
                  go_simp
                  with_reducible rfl
                 rotate_left
                 ·simp only [Act.put,List.setIfInBounds_toArray,List.set_cons_zero,List.set_cons_succ,i64_w,i32_w]
                  rfl
                 refine take_ (i:=0) (N:=some 133) (v:=?_) (a':=?_) #[true,true,false,false,true,false,false,false,false,false,false,false,false,false,false,false,false,false,false,false,false,false,false,false,false,false,false] rfl rfl (take_ofW HT_.out HW_.out (by kernel_rfl)) (fun _ _ _ h=>h) (Or.inl ⟨by rfl,?_⟩) hHeld ?_ ?_
                 rotate_left
                 ·rintro w' ⟨s0,s1,s2,s3,s4,s5,s6,s7,s8,s9,s10,s11,s12,s13,s14,s15⟩
                  go_simp
                  with_reducible rfl
                 rotate_left
                 ·simp only [Act.put,List.setIfInBounds_toArray,List.set_cons_zero,List.set_cons_succ,i64_w,i32_w]
                  rfl
                 refine take_ (i:=3) (N:=some 136) (v:=?_) (a':=?_) #[true,true,false,true,true,false,false,false,false,false,false,false,false,false,false,false,false,false,false,false,false,false,false,false,false,false,false] rfl rfl (take_ofW HT_.out HW_.out (by kernel_rfl)) (fun _ _ _ h=>h) (Or.inl ⟨by rfl,?_⟩) hHeld ?_ ?_
                 rotate_left
                 ·rintro w' ⟨s0,s1,s2,s3,s4,s5,s6,s7,s8,s9,s10,s11,s12,s13,s14,s15⟩
                  go_simp
                  with_reducible rfl
                 rotate_left
                 ·simp only [Act.put,List.setIfInBounds_toArray,List.set_cons_zero,List.set_cons_succ,i64_w,i32_w]
                  rfl
                 refine one_ (i:=2) (N:=some 135) #[true,true,true,true,true,false,false,false,false,false,false,false,false,false,false,false,false,false,false,false,false,false,false,false,false,false,false] rfl rfl (one_of HT_.out (by kernel_rfl)) (by decide) (fun K hK=>?_)
                 refine goes_ Try.func17 (by kernel_rfl) rfl #[.agg #[.int .i64 (wrap64 ((wrap64 (1 + t117)) + 1)),.int .i64 t118,.int .i64 t119,.int .u32 0],.int .i64 x14_4] (by rfl) rfl rfl (by (try simp only [List.map_toArray,List.map_cons,List.map_nil]);first|done|rfl|(simp only [List.length_drop,List.length_take];rfl)) ?_
                 with_reducible refine (layout_Config_Holder.calls (wrap64 ((wrap64 (1 + t117)) + 1)) t118 t119 0 x14_4 t142 _ A105.out).mono ?_
                 rintro e w119 ⟨rfl,hb⟩
                 refine ⟨_,rfl,?_⟩
                 have n0_:=Aside0.mk (blk_below (g:=gb120) (o:=.cells #[.int .i64 (wrap64 (1 + t117)),.int .i64 t118,.int .i64 t119,.int .u32 0] 25 (0,0)) (by (with_reducible repeat (first|refine blk_drewN ?_ _|refine blk_drew ?_|refine blk_alloc ?_ _));exact BK120.out) hb)
                 have n1_:=Aside0.mk (blk_below (g:=gb121) (o:=.cells #[.int .i64 (wrap64 ((wrap64 (1 + t117)) + 1)),.int .i64 t118,.int .i64 t119,.int .u32 0] 25 (0,0)) (by (with_reducible repeat (first|refine blk_drewN ?_ _|refine blk_drew ?_|refine blk_alloc ?_ _));exact BK121.out) hb)
                 have n2_:=Aside0.mk (blk_below (g:=gb122) (o:=.cells #[.int .i64 (wrap64 (1 + t117)),.int .i64 (wrap64 (t118 + 1)),.int .i64 t119,.int .u32 0] 25 (0,0)) (by (with_reducible repeat (first|refine blk_drewN ?_ _|refine blk_drew ?_|refine blk_alloc ?_ _));exact BK122.out) hb)
                 have n3_:=Aside0.mk (blk_below (g:=gb123) (o:=.cells #[.int .i64 (wrap64 (1 + t117)),.int .i64 t118,.int .i64 (wrap64 (t119 + 1)),.int .u32 0] 25 (0,0)) (by (with_reducible repeat (first|refine blk_drewN ?_ _|refine blk_drew ?_|refine blk_alloc ?_ _));exact BK123.out) hb)
                 have n4_:=Aside0.mk (below_step (by repeat (first|(with_reducible first|exact HB.out|apply below_alloc|apply pw_below_drewN|apply below_drew1|refine below_set ?_ GE120.out|refine below_set ?_ GE121.out|refine below_set ?_ GE122.out|refine below_set ?_ GE123.out)|exact HB.out)) hb)
                 clear BK120
                 clear BK121
                 clear BK122
                 clear BK123
                 clear HB
                 have BK120:=n0_
                 have BK121:=n1_
                 have BK122:=n2_
                 have BK123:=n3_
                 have HB:=n4_
                 clear n0_ n1_ n2_ n3_ n4_
                 (try clear hb)
                 (try clear hb2)
                 (try clear hk)
                 (try clear hi)
                 refine hK.out _ _ ⟨(blk_cell BK121.out 0).trans rfl,(blk_cell BK121.out 1).trans rfl,(blk_cell BK121.out 2).trans rfl,(blk_cell BK121.out 3).trans rfl,(blk_cell BK120.out 0).trans rfl,(blk_cell BK120.out 1).trans rfl,(blk_cell BK120.out 2).trans rfl,(blk_cell BK120.out 3).trans rfl,(blk_cell BK122.out 0).trans rfl,(blk_cell BK122.out 1).trans rfl,(blk_cell BK122.out 2).trans rfl,(blk_cell BK122.out 3).trans rfl,(blk_cell BK123.out 0).trans rfl,(blk_cell BK123.out 1).trans rfl,(blk_cell BK123.out 2).trans rfl,(blk_cell BK123.out 3).trans rfl⟩ (fun hHeld=>?_)
                 clear hK K
                 refine norm_ (a':=?_) ?_ ?_
                 rotate_left
                 ·show Act.put _ (some 135) _ = _
                  simp only [Act.put,List.setIfInBounds_toArray,List.set_cons_zero,List.set_cons_succ,i64_w,i32_w]
                  rfl
                 refine one_ (i:=5) (N:=some 138) #[true,true,true,true,true,true,false,false,false,false,false,false,false,false,false,false,false,false,false,false,false,false,false,false,false,false,false] rfl rfl (one_of HT_.out (by kernel_rfl)) (by decide) (fun K hK=>?_)
                 refine goes_ Try.func17 (by kernel_rfl) rfl #[.agg #[.int .i64 (wrap64 (1 + t117)),.int .i64 t118,.int .i64 t119,.int .u32 0],.int .i64 x14_4] (by rfl) rfl rfl (by (try simp only [List.map_toArray,List.map_cons,List.map_nil]);first|done|rfl|(simp only [List.length_drop,List.length_take];rfl)) ?_
                 with_reducible refine (layout_Config_Holder.calls (wrap64 (1 + t117)) t118 t119 0 x14_4 t143 _ A106.out).mono ?_
                 rintro e w120 ⟨rfl,hb⟩
                 refine ⟨_,rfl,?_⟩
                 have n0_:=Aside0.mk (blk_below (g:=gb120) (o:=.cells #[.int .i64 (wrap64 (1 + t117)),.int .i64 t118,.int .i64 t119,.int .u32 0] 25 (0,0)) (by (with_reducible repeat (first|refine blk_drewN ?_ _|refine blk_drew ?_|refine blk_alloc ?_ _));exact BK120.out) hb)
                 have n1_:=Aside0.mk (blk_below (g:=gb121) (o:=.cells #[.int .i64 (wrap64 ((wrap64 (1 + t117)) + 1)),.int .i64 t118,.int .i64 t119,.int .u32 0] 25 (0,0)) (by (with_reducible repeat (first|refine blk_drewN ?_ _|refine blk_drew ?_|refine blk_alloc ?_ _));exact BK121.out) hb)
                 have n2_:=Aside0.mk (blk_below (g:=gb122) (o:=.cells #[.int .i64 (wrap64 (1 + t117)),.int .i64 (wrap64 (t118 + 1)),.int .i64 t119,.int .u32 0] 25 (0,0)) (by (with_reducible repeat (first|refine blk_drewN ?_ _|refine blk_drew ?_|refine blk_alloc ?_ _));exact BK122.out) hb)
                 have n3_:=Aside0.mk (blk_below (g:=gb123) (o:=.cells #[.int .i64 (wrap64 (1 + t117)),.int .i64 t118,.int .i64 (wrap64 (t119 + 1)),.int .u32 0] 25 (0,0)) (by (with_reducible repeat (first|refine blk_drewN ?_ _|refine blk_drew ?_|refine blk_alloc ?_ _));exact BK123.out) hb)
                 have n4_:=Aside0.mk (below_step (by repeat (first|(with_reducible first|exact HB.out|apply below_alloc|apply pw_below_drewN|apply below_drew1|refine below_set ?_ GE120.out|refine below_set ?_ GE121.out|refine below_set ?_ GE122.out|refine below_set ?_ GE123.out)|exact HB.out)) hb)
                 clear BK120
                 clear BK121
                 clear BK122
                 clear BK123
                 clear HB
                 have BK120:=n0_
                 have BK121:=n1_
                 have BK122:=n2_
                 have BK123:=n3_
                 have HB:=n4_
                 clear n0_ n1_ n2_ n3_ n4_
                 (try clear hb)
                 (try clear hb2)
                 (try clear hk)
                 (try clear hi)
                 refine hK.out _ _ ⟨(blk_cell BK121.out 0).trans rfl,(blk_cell BK121.out 1).trans rfl,(blk_cell BK121.out 2).trans rfl,(blk_cell BK121.out 3).trans rfl,(blk_cell BK120.out 0).trans rfl,(blk_cell BK120.out 1).trans rfl,(blk_cell BK120.out 2).trans rfl,(blk_cell BK120.out 3).trans rfl,(blk_cell BK122.out 0).trans rfl,(blk_cell BK122.out 1).trans rfl,(blk_cell BK122.out 2).trans rfl,(blk_cell BK122.out 3).trans rfl,(blk_cell BK123.out 0).trans rfl,(blk_cell BK123.out 1).trans rfl,(blk_cell BK123.out 2).trans rfl,(blk_cell BK123.out 3).trans rfl⟩ (fun hHeld=>?_)
                 clear hK K
                 refine norm_ (a':=?_) ?_ ?_
                 rotate_left
                 ·show Act.put _ (some 138) _ = _
                  simp only [Act.put,List.setIfInBounds_toArray,List.set_cons_zero,List.set_cons_succ,i64_w,i32_w]
                  rfl
                 refine pure_ (i:=6) (N:=some 139) (v:=?_) (a':=?_) #[true,true,true,true,true,true,true,false,false,false,false,false,false,false,false,false,false,false,false,false,false,false,false,false,false,false,false] rfl rfl (any_of HT_.out (by kernel_rfl)) (fun _ _ _ h=>h) (Or.inl ⟨by rfl,?_⟩) ?_ ?_
                 rotate_left
                 ·intro w'
                  go_simp
                  with_reducible rfl
                 rotate_left
                 ·simp only [Act.put,List.setIfInBounds_toArray,List.set_cons_zero,List.set_cons_succ,i64_w,i32_w]
                  rfl
                 refine pure_ (i:=7) (N:=some 140) (v:=?_) (a':=?_) #[true,true,true,true,true,true,true,true,false,false,false,false,false,false,false,false,false,false,false,false,false,false,false,false,false,false,false] rfl rfl (any_of HT_.out (by kernel_rfl)) (fun _ _ _ h=>h) (Or.inl ⟨by rfl,?_⟩) ?_ ?_
                 rotate_left
                 ·intro w'
                  go_simp
                  with_reducible rfl
                 rotate_left
                 ·simp only [Act.put,List.setIfInBounds_toArray,List.set_cons_zero,List.set_cons_succ,i64_w,i32_w]
                  rfl
                 refine pure_ (i:=8) (N:=some 141) (v:=?_) (a':=?_) #[true,true,true,true,true,true,true,true,true,false,false,false,false,false,false,false,false,false,false,false,false,false,false,false,false,false,false] rfl rfl (any_of HT_.out (by kernel_rfl)) (fun _ _ _ h=>h) (Or.inl ⟨by rfl,?_⟩) ?_ ?_
                 rotate_left
                 ·intro w'
                  go_simp
                  with_reducible rfl
                 rotate_left
                 ·simp only [Act.put,List.setIfInBounds_toArray,List.set_cons_zero,List.set_cons_succ,i64_w,i32_w]
                  rfl
                 refine pure_ (i:=10) (N:=some 143) (v:=?_) (a':=?_) #[true,true,true,true,true,true,true,true,true,false,true,false,false,false,false,false,false,false,false,false,false,false,false,false,false,false,false] rfl rfl (any_of HT_.out (by kernel_rfl)) (fun _ _ _ h=>h) (Or.inl ⟨by rfl,?_⟩) ?_ ?_
                 rotate_left
                 ·intro w'
                  go_simp
                  with_reducible rfl
                 rotate_left
                 ·simp only [Act.put,List.setIfInBounds_toArray,List.set_cons_zero,List.set_cons_succ,i64_w,i32_w]
                  rfl
                 refine pure_ (i:=13) (N:=some 146) (v:=?_) (a':=?_) #[true,true,true,true,true,true,true,true,true,false,true,false,false,true,false,false,false,false,false,false,false,false,false,false,false,false,false] rfl rfl (any_of HT_.out (by kernel_rfl)) (fun _ _ _ h=>h) (Or.inl ⟨by rfl,?_⟩) ?_ ?_
                 rotate_left
                 ·intro w'
                  go_simp
                  with_reducible rfl
                 rotate_left
                 ·simp only [Act.put,List.setIfInBounds_toArray,List.set_cons_zero,List.set_cons_succ,i64_w,i32_w]
                  rfl
                 refine take_ (i:=9) (N:=some 142) (v:=?_) (a':=?_) #[true,true,true,true,true,true,true,true,true,true,true,false,false,true,false,false,false,false,false,false,false,false,false,false,false,false,false] rfl rfl (take_ofW HT_.out HW_.out (by kernel_rfl)) (fun _ _ _ h=>h) (Or.inl ⟨by rfl,?_⟩) hHeld ?_ ?_
                 rotate_left
                 ·rintro w' ⟨s0,s1,s2,s3,s4,s5,s6,s7,s8,s9,s10,s11,s12,s13,s14,s15⟩
                  go_simp
                  with_reducible rfl
                 rotate_left
                 ·simp only [Act.put,List.setIfInBounds_toArray,List.set_cons_zero,List.set_cons_succ,i64_w,i32_w]
                  rfl
                 refine take_ (i:=12) (N:=some 145) (v:=?_) (a':=?_) #[true,true,true,true,true,true,true,true,true,true,true,false,true,true,false,false,false,false,false,false,false,false,false,false,false,false,false] rfl rfl (take_ofW HT_.out HW_.out (by kernel_rfl)) (fun _ _ _ h=>h) (Or.inl ⟨by rfl,?_⟩) hHeld ?_ ?_
                 rotate_left
                 ·rintro w' ⟨s0,s1,s2,s3,s4,s5,s6,s7,s8,s9,s10,s11,s12,s13,s14,s15⟩
                  go_simp
                  with_reducible rfl
                 rotate_left
                 ·simp only [Act.put,List.setIfInBounds_toArray,List.set_cons_zero,List.set_cons_succ,i64_w,i32_w]
                  rfl
                 refine one_ (i:=11) (N:=some 144) #[true,true,true,true,true,true,true,true,true,true,true,true,true,true,false,false,false,false,false,false,false,false,false,false,false,false,false] rfl rfl (one_of HT_.out (by kernel_rfl)) (by decide) (fun K hK=>?_)
                 refine goes_ Try.func17 (by kernel_rfl) rfl #[.agg #[.int .i64 (wrap64 (1 + t117)),.int .i64 (wrap64 (t118 + 1)),.int .i64 t119,.int .u32 0],.int .i64 x14_4] (by rfl) rfl rfl (by (try simp only [List.map_toArray,List.map_cons,List.map_nil]);first|done|rfl|(simp only [List.length_drop,List.length_take];rfl)) ?_
                 with_reducible refine (layout_Config_Holder.calls (wrap64 (1 + t117)) (wrap64 (t118 + 1)) t119 0 x14_4 t144 _ A108.out).mono ?_
                 rintro e w121 ⟨rfl,hb⟩
                 refine ⟨_,rfl,?_⟩
                 have n0_:=Aside0.mk (blk_below (g:=gb120) (o:=.cells #[.int .i64 (wrap64 (1 + t117)),.int .i64 t118,.int .i64 t119,.int .u32 0] 25 (0,0)) (by (with_reducible repeat (first|refine blk_drewN ?_ _|refine blk_drew ?_|refine blk_alloc ?_ _));exact BK120.out) hb)
                 have n1_:=Aside0.mk (blk_below (g:=gb121) (o:=.cells #[.int .i64 (wrap64 ((wrap64 (1 + t117)) + 1)),.int .i64 t118,.int .i64 t119,.int .u32 0] 25 (0,0)) (by (with_reducible repeat (first|refine blk_drewN ?_ _|refine blk_drew ?_|refine blk_alloc ?_ _));exact BK121.out) hb)
                 have n2_:=Aside0.mk (blk_below (g:=gb122) (o:=.cells #[.int .i64 (wrap64 (1 + t117)),.int .i64 (wrap64 (t118 + 1)),.int .i64 t119,.int .u32 0] 25 (0,0)) (by (with_reducible repeat (first|refine blk_drewN ?_ _|refine blk_drew ?_|refine blk_alloc ?_ _));exact BK122.out) hb)
                 have n3_:=Aside0.mk (blk_below (g:=gb123) (o:=.cells #[.int .i64 (wrap64 (1 + t117)),.int .i64 t118,.int .i64 (wrap64 (t119 + 1)),.int .u32 0] 25 (0,0)) (by (with_reducible repeat (first|refine blk_drewN ?_ _|refine blk_drew ?_|refine blk_alloc ?_ _));exact BK123.out) hb)
                 have n4_:=Aside0.mk (below_step (by repeat (first|(with_reducible first|exact HB.out|apply below_alloc|apply pw_below_drewN|apply below_drew1|refine below_set ?_ GE120.out|refine below_set ?_ GE121.out|refine below_set ?_ GE122.out|refine below_set ?_ GE123.out)|exact HB.out)) hb)
                 clear BK120
                 clear BK121
                 clear BK122
                 clear BK123
                 clear HB
                 have BK120:=n0_
                 have BK121:=n1_
                 have BK122:=n2_
                 have BK123:=n3_
                 have HB:=n4_
                 clear n0_ n1_ n2_ n3_ n4_
                 (try clear hb)
                 (try clear hb2)
                 (try clear hk)
                 (try clear hi)
                 refine hK.out _ _ ⟨(blk_cell BK121.out 0).trans rfl,(blk_cell BK121.out 1).trans rfl,(blk_cell BK121.out 2).trans rfl,(blk_cell BK121.out 3).trans rfl,(blk_cell BK120.out 0).trans rfl,(blk_cell BK120.out 1).trans rfl,(blk_cell BK120.out 2).trans rfl,(blk_cell BK120.out 3).trans rfl,(blk_cell BK122.out 0).trans rfl,(blk_cell BK122.out 1).trans rfl,(blk_cell BK122.out 2).trans rfl,(blk_cell BK122.out 3).trans rfl,(blk_cell BK123.out 0).trans rfl,(blk_cell BK123.out 1).trans rfl,(blk_cell BK123.out 2).trans rfl,(blk_cell BK123.out 3).trans rfl⟩ (fun hHeld=>?_)
                 clear hK K
                 refine norm_ (a':=?_) ?_ ?_
                 rotate_left
                 ·show Act.put _ (some 144) _ = _
                  simp only [Act.put,List.setIfInBounds_toArray,List.set_cons_zero,List.set_cons_succ,i64_w,i32_w]
                  rfl
                 refine one_ (i:=14) (N:=some 147) #[true,true,true,true,true,true,true,true,true,true,true,true,true,true,true,false,false,false,false,false,false,false,false,false,false,false,false] rfl rfl (one_of HT_.out (by kernel_rfl)) (by decide) (fun K hK=>?_)
                 refine goes_ Try.func17 (by kernel_rfl) rfl #[.agg #[.int .i64 (wrap64 (1 + t117)),.int .i64 t118,.int .i64 t119,.int .u32 0],.int .i64 x14_4] (by rfl) rfl rfl (by (try simp only [List.map_toArray,List.map_cons,List.map_nil]);first|done|rfl|(simp only [List.length_drop,List.length_take];rfl)) ?_
                 with_reducible refine (layout_Config_Holder.calls (wrap64 (1 + t117)) t118 t119 0 x14_4 t145 _ A109.out).mono ?_
                 rintro e w122 ⟨rfl,hb⟩
                 refine ⟨_,rfl,?_⟩
                 have n0_:=Aside0.mk (blk_below (g:=gb120) (o:=.cells #[.int .i64 (wrap64 (1 + t117)),.int .i64 t118,.int .i64 t119,.int .u32 0] 25 (0,0)) (by (with_reducible repeat (first|refine blk_drewN ?_ _|refine blk_drew ?_|refine blk_alloc ?_ _));exact BK120.out) hb)
                 have n1_:=Aside0.mk (blk_below (g:=gb121) (o:=.cells #[.int .i64 (wrap64 ((wrap64 (1 + t117)) + 1)),.int .i64 t118,.int .i64 t119,.int .u32 0] 25 (0,0)) (by (with_reducible repeat (first|refine blk_drewN ?_ _|refine blk_drew ?_|refine blk_alloc ?_ _));exact BK121.out) hb)
                 have n2_:=Aside0.mk (blk_below (g:=gb122) (o:=.cells #[.int .i64 (wrap64 (1 + t117)),.int .i64 (wrap64 (t118 + 1)),.int .i64 t119,.int .u32 0] 25 (0,0)) (by (with_reducible repeat (first|refine blk_drewN ?_ _|refine blk_drew ?_|refine blk_alloc ?_ _));exact BK122.out) hb)
                 have n3_:=Aside0.mk (blk_below (g:=gb123) (o:=.cells #[.int .i64 (wrap64 (1 + t117)),.int .i64 t118,.int .i64 (wrap64 (t119 + 1)),.int .u32 0] 25 (0,0)) (by (with_reducible repeat (first|refine blk_drewN ?_ _|refine blk_drew ?_|refine blk_alloc ?_ _));exact BK123.out) hb)
                 have n4_:=Aside0.mk (below_step (by repeat (first|(with_reducible first|exact HB.out|apply below_alloc|apply pw_below_drewN|apply below_drew1|refine below_set ?_ GE120.out|refine below_set ?_ GE121.out|refine below_set ?_ GE122.out|refine below_set ?_ GE123.out)|exact HB.out)) hb)
                 clear BK120
                 clear BK121
                 clear BK122
                 clear BK123
                 clear HB
                 have BK120:=n0_
                 have BK121:=n1_
                 have BK122:=n2_
                 have BK123:=n3_
                 have HB:=n4_
                 clear n0_ n1_ n2_ n3_ n4_
                 (try clear hb)
                 (try clear hb2)
                 (try clear hk)
                 (try clear hi)
                 refine hK.out _ _ ⟨(blk_cell BK121.out 0).trans rfl,(blk_cell BK121.out 1).trans rfl,(blk_cell BK121.out 2).trans rfl,(blk_cell BK121.out 3).trans rfl,(blk_cell BK120.out 0).trans rfl,(blk_cell BK120.out 1).trans rfl,(blk_cell BK120.out 2).trans rfl,(blk_cell BK120.out 3).trans rfl,(blk_cell BK122.out 0).trans rfl,(blk_cell BK122.out 1).trans rfl,(blk_cell BK122.out 2).trans rfl,(blk_cell BK122.out 3).trans rfl,(blk_cell BK123.out 0).trans rfl,(blk_cell BK123.out 1).trans rfl,(blk_cell BK123.out 2).trans rfl,(blk_cell BK123.out 3).trans rfl⟩ (fun hHeld=>?_)
                 clear hK K
                 refine norm_ (a':=?_) ?_ ?_
                 rotate_left
                 ·show Act.put _ (some 147) _ = _
                  simp only [Act.put,List.setIfInBounds_toArray,List.set_cons_zero,List.set_cons_succ,i64_w,i32_w]
                  rfl
                 refine pure_ (i:=15) (N:=some 148) (v:=?_) (a':=?_) #[true,true,true,true,true,true,true,true,true,true,true,true,true,true,true,true,false,false,false,false,false,false,false,false,false,false,false] rfl rfl (any_of HT_.out (by kernel_rfl)) (fun _ _ _ h=>h) (Or.inl ⟨by rfl,?_⟩) ?_ ?_
                 rotate_left
                 ·intro w'
                  go_simp
                  with_reducible rfl
                 rotate_left
                 ·simp only [Act.put,List.setIfInBounds_toArray,List.set_cons_zero,List.set_cons_succ,i64_w,i32_w]
                  rfl
                 refine pure_ (i:=16) (N:=some 149) (v:=?_) (a':=?_) #[true,true,true,true,true,true,true,true,true,true,true,true,true,true,true,true,true,false,false,false,false,false,false,false,false,false,false] rfl rfl (any_of HT_.out (by kernel_rfl)) (fun _ _ _ h=>h) (Or.inl ⟨by rfl,?_⟩) ?_ ?_
                 rotate_left
                 ·intro w'
                  go_simp
                  with_reducible rfl
                 rotate_left
                 ·simp only [Act.put,List.setIfInBounds_toArray,List.set_cons_zero,List.set_cons_succ,i64_w,i32_w]
                  rfl
                 refine pure_ (i:=17) (N:=some 150) (v:=?_) (a':=?_) #[true,true,true,true,true,true,true,true,true,true,true,true,true,true,true,true,true,true,false,false,false,false,false,false,false,false,false] rfl rfl (any_of HT_.out (by kernel_rfl)) (fun _ _ _ h=>h) (Or.inl ⟨by rfl,?_⟩) ?_ ?_
                 rotate_left
                 ·intro w'
                  go_simp
                  with_reducible rfl
                 rotate_left
                 ·simp only [Act.put,List.setIfInBounds_toArray,List.set_cons_zero,List.set_cons_succ,i64_w,i32_w]
                  rfl
                 refine pure_ (i:=18) (N:=some 151) (v:=?_) (a':=?_) #[true,true,true,true,true,true,true,true,true,true,true,true,true,true,true,true,true,true,true,false,false,false,false,false,false,false,false] rfl rfl (any_of HT_.out (by kernel_rfl)) (fun _ _ _ h=>h) (Or.inl ⟨by rfl,?_⟩) ?_ ?_
                 rotate_left
                 ·intro w'
                  go_simp
                  with_reducible rfl
                 rotate_left
                 ·simp only [Act.put,List.setIfInBounds_toArray,List.set_cons_zero,List.set_cons_succ,i64_w,i32_w]
                  rfl
                 refine pure_ (i:=20) (N:=some 153) (v:=?_) (a':=?_) #[true,true,true,true,true,true,true,true,true,true,true,true,true,true,true,true,true,true,true,false,true,false,false,false,false,false,false] rfl rfl (any_of HT_.out (by kernel_rfl)) (fun _ _ _ h=>h) (Or.inl ⟨by rfl,?_⟩) ?_ ?_
                 rotate_left
                 ·intro w'
                  go_simp
                  with_reducible rfl
                 rotate_left
                 ·simp only [Act.put,List.setIfInBounds_toArray,List.set_cons_zero,List.set_cons_succ,i64_w,i32_w]
                  rfl
                 refine pure_ (i:=23) (N:=some 156) (v:=?_) (a':=?_) #[true,true,true,true,true,true,true,true,true,true,true,true,true,true,true,true,true,true,true,false,true,false,false,true,false,false,false] rfl rfl (any_of HT_.out (by kernel_rfl)) (fun _ _ _ h=>h) (Or.inl ⟨by rfl,?_⟩) ?_ ?_
                 rotate_left
                 ·intro w'
                  go_simp
                  with_reducible rfl
                 rotate_left
                 ·simp only [Act.put,List.setIfInBounds_toArray,List.set_cons_zero,List.set_cons_succ,i64_w,i32_w]
                  rfl
                 refine take_ (i:=19) (N:=some 152) (v:=?_) (a':=?_) #[true,true,true,true,true,true,true,true,true,true,true,true,true,true,true,true,true,true,true,true,true,false,false,true,false,false,false] rfl rfl (take_ofW HT_.out HW_.out (by kernel_rfl)) (fun _ _ _ h=>h) (Or.inl ⟨by rfl,?_⟩) hHeld ?_ ?_
                 rotate_left
                 ·rintro w' ⟨s0,s1,s2,s3,s4,s5,s6,s7,s8,s9,s10,s11,s12,s13,s14,s15⟩
                  go_simp
                  with_reducible rfl
                 rotate_left
                 ·simp only [Act.put,List.setIfInBounds_toArray,List.set_cons_zero,List.set_cons_succ,i64_w,i32_w]
                  rfl
                 refine take_ (i:=22) (N:=some 155) (v:=?_) (a':=?_) #[true,true,true,true,true,true,true,true,true,true,true,true,true,true,true,true,true,true,true,true,true,false,true,true,false,false,false] rfl rfl (take_ofW HT_.out HW_.out (by kernel_rfl)) (fun _ _ _ h=>h) (Or.inl ⟨by rfl,?_⟩) hHeld ?_ ?_
                 rotate_left
                 ·rintro w' ⟨s0,s1,s2,s3,s4,s5,s6,s7,s8,s9,s10,s11,s12,s13,s14,s15⟩
                  go_simp
                  with_reducible rfl
                 rotate_left
                 ·simp only [Act.put,List.setIfInBounds_toArray,List.set_cons_zero,List.set_cons_succ,i64_w,i32_w]
                  rfl
                 refine one_ (i:=21) (N:=some 154) #[true,true,true,true,true,true,true,true,true,true,true,true,true,true,true,true,true,true,true,true,true,true,true,true,false,false,false] rfl rfl (one_of HT_.out (by kernel_rfl)) (by decide) (fun K hK=>?_)
                 refine goes_ Try.func17 (by kernel_rfl) rfl #[.agg #[.int .i64 (wrap64 (1 + t117)),.int .i64 t118,.int .i64 (wrap64 (t119 + 1)),.int .u32 0],.int .i64 x14_4] (by rfl) rfl rfl (by (try simp only [List.map_toArray,List.map_cons,List.map_nil]);first|done|rfl|(simp only [List.length_drop,List.length_take];rfl)) ?_
                 with_reducible refine (layout_Config_Holder.calls (wrap64 (1 + t117)) t118 (wrap64 (t119 + 1)) 0 x14_4 t146 _ A111.out).mono ?_
                 rintro e w123 ⟨rfl,hb⟩
                 refine ⟨_,rfl,?_⟩
                 have n0_:=Aside0.mk (blk_below (g:=gb120) (o:=.cells #[.int .i64 (wrap64 (1 + t117)),.int .i64 t118,.int .i64 t119,.int .u32 0] 25 (0,0)) (by (with_reducible repeat (first|refine blk_drewN ?_ _|refine blk_drew ?_|refine blk_alloc ?_ _));exact BK120.out) hb)
                 have n1_:=Aside0.mk (blk_below (g:=gb121) (o:=.cells #[.int .i64 (wrap64 ((wrap64 (1 + t117)) + 1)),.int .i64 t118,.int .i64 t119,.int .u32 0] 25 (0,0)) (by (with_reducible repeat (first|refine blk_drewN ?_ _|refine blk_drew ?_|refine blk_alloc ?_ _));exact BK121.out) hb)
                 have n2_:=Aside0.mk (blk_below (g:=gb122) (o:=.cells #[.int .i64 (wrap64 (1 + t117)),.int .i64 (wrap64 (t118 + 1)),.int .i64 t119,.int .u32 0] 25 (0,0)) (by (with_reducible repeat (first|refine blk_drewN ?_ _|refine blk_drew ?_|refine blk_alloc ?_ _));exact BK122.out) hb)
                 have n3_:=Aside0.mk (blk_below (g:=gb123) (o:=.cells #[.int .i64 (wrap64 (1 + t117)),.int .i64 t118,.int .i64 (wrap64 (t119 + 1)),.int .u32 0] 25 (0,0)) (by (with_reducible repeat (first|refine blk_drewN ?_ _|refine blk_drew ?_|refine blk_alloc ?_ _));exact BK123.out) hb)
                 have n4_:=Aside0.mk (below_step (by repeat (first|(with_reducible first|exact HB.out|apply below_alloc|apply pw_below_drewN|apply below_drew1|refine below_set ?_ GE120.out|refine below_set ?_ GE121.out|refine below_set ?_ GE122.out|refine below_set ?_ GE123.out)|exact HB.out)) hb)
                 clear BK120
                 clear BK121
                 clear BK122
                 clear BK123
                 clear HB
                 have BK120:=n0_
                 have BK121:=n1_
                 have BK122:=n2_
                 have BK123:=n3_
                 have HB:=n4_
                 clear n0_ n1_ n2_ n3_ n4_
                 (try clear hb)
                 (try clear hb2)
                 (try clear hk)
                 (try clear hi)
                 refine hK.out _ _ ⟨(blk_cell BK121.out 0).trans rfl,(blk_cell BK121.out 1).trans rfl,(blk_cell BK121.out 2).trans rfl,(blk_cell BK121.out 3).trans rfl,(blk_cell BK120.out 0).trans rfl,(blk_cell BK120.out 1).trans rfl,(blk_cell BK120.out 2).trans rfl,(blk_cell BK120.out 3).trans rfl,(blk_cell BK122.out 0).trans rfl,(blk_cell BK122.out 1).trans rfl,(blk_cell BK122.out 2).trans rfl,(blk_cell BK122.out 3).trans rfl,(blk_cell BK123.out 0).trans rfl,(blk_cell BK123.out 1).trans rfl,(blk_cell BK123.out 2).trans rfl,(blk_cell BK123.out 3).trans rfl⟩ (fun hHeld=>?_)
                 clear hK K
                 refine norm_ (a':=?_) ?_ ?_
                 rotate_left
                 ·show Act.put _ (some 154) _ = _
                  simp only [Act.put,List.setIfInBounds_toArray,List.set_cons_zero,List.set_cons_succ,i64_w,i32_w]
                  rfl
                 refine one_ (i:=24) (N:=some 157) #[true,true,true,true,true,true,true,true,true,true,true,true,true,true,true,true,true,true,true,true,true,true,true,true,true,false,false] rfl rfl (one_of HT_.out (by kernel_rfl)) (by decide) (fun K hK=>?_)
                 refine goes_ Try.func17 (by kernel_rfl) rfl #[.agg #[.int .i64 (wrap64 (1 + t117)),.int .i64 t118,.int .i64 t119,.int .u32 0],.int .i64 x14_4] (by rfl) rfl rfl (by (try simp only [List.map_toArray,List.map_cons,List.map_nil]);first|done|rfl|(simp only [List.length_drop,List.length_take];rfl)) ?_
                 with_reducible refine (layout_Config_Holder.calls (wrap64 (1 + t117)) t118 t119 0 x14_4 t147 _ A112.out).mono ?_
                 rintro e w124 ⟨rfl,hb⟩
                 refine ⟨_,rfl,?_⟩
                 have n0_:=Aside0.mk (blk_below (g:=gb120) (o:=.cells #[.int .i64 (wrap64 (1 + t117)),.int .i64 t118,.int .i64 t119,.int .u32 0] 25 (0,0)) (by (with_reducible repeat (first|refine blk_drewN ?_ _|refine blk_drew ?_|refine blk_alloc ?_ _));exact BK120.out) hb)
                 have n1_:=Aside0.mk (blk_below (g:=gb121) (o:=.cells #[.int .i64 (wrap64 ((wrap64 (1 + t117)) + 1)),.int .i64 t118,.int .i64 t119,.int .u32 0] 25 (0,0)) (by (with_reducible repeat (first|refine blk_drewN ?_ _|refine blk_drew ?_|refine blk_alloc ?_ _));exact BK121.out) hb)
                 have n2_:=Aside0.mk (blk_below (g:=gb122) (o:=.cells #[.int .i64 (wrap64 (1 + t117)),.int .i64 (wrap64 (t118 + 1)),.int .i64 t119,.int .u32 0] 25 (0,0)) (by (with_reducible repeat (first|refine blk_drewN ?_ _|refine blk_drew ?_|refine blk_alloc ?_ _));exact BK122.out) hb)
                 have n3_:=Aside0.mk (blk_below (g:=gb123) (o:=.cells #[.int .i64 (wrap64 (1 + t117)),.int .i64 t118,.int .i64 (wrap64 (t119 + 1)),.int .u32 0] 25 (0,0)) (by (with_reducible repeat (first|refine blk_drewN ?_ _|refine blk_drew ?_|refine blk_alloc ?_ _));exact BK123.out) hb)
                 have n4_:=Aside0.mk (below_step (by repeat (first|(with_reducible first|exact HB.out|apply below_alloc|apply pw_below_drewN|apply below_drew1|refine below_set ?_ GE120.out|refine below_set ?_ GE121.out|refine below_set ?_ GE122.out|refine below_set ?_ GE123.out)|exact HB.out)) hb)
                 clear BK120
                 clear BK121
                 clear BK122
                 clear BK123
                 clear HB
                 have BK120:=n0_
                 have BK121:=n1_
                 have BK122:=n2_
                 have BK123:=n3_
                 have HB:=n4_
                 clear n0_ n1_ n2_ n3_ n4_
                 (try clear hb)
                 (try clear hb2)
                 (try clear hk)
                 (try clear hi)
                 refine hK.out _ _ ⟨(blk_cell BK121.out 0).trans rfl,(blk_cell BK121.out 1).trans rfl,(blk_cell BK121.out 2).trans rfl,(blk_cell BK121.out 3).trans rfl,(blk_cell BK120.out 0).trans rfl,(blk_cell BK120.out 1).trans rfl,(blk_cell BK120.out 2).trans rfl,(blk_cell BK120.out 3).trans rfl,(blk_cell BK122.out 0).trans rfl,(blk_cell BK122.out 1).trans rfl,(blk_cell BK122.out 2).trans rfl,(blk_cell BK122.out 3).trans rfl,(blk_cell BK123.out 0).trans rfl,(blk_cell BK123.out 1).trans rfl,(blk_cell BK123.out 2).trans rfl,(blk_cell BK123.out 3).trans rfl⟩ (fun hHeld=>?_)
                 clear hK K
                 refine norm_ (a':=?_) ?_ ?_
                 rotate_left
                 ·show Act.put _ (some 157) _ = _
                  simp only [Act.put,List.setIfInBounds_toArray,List.set_cons_zero,List.set_cons_succ,i64_w,i32_w]
                  rfl
                 refine pure_ (i:=25) (N:=some 158) (v:=?_) (a':=?_) #[true,true,true,true,true,true,true,true,true,true,true,true,true,true,true,true,true,true,true,true,true,true,true,true,true,true,false] rfl rfl (any_of HT_.out (by kernel_rfl)) (fun _ _ _ h=>h) (Or.inl ⟨by rfl,?_⟩) ?_ ?_
                 rotate_left
                 ·intro w'
                  go_simp
                  with_reducible rfl
                 rotate_left
                 ·simp only [Act.put,List.setIfInBounds_toArray,List.set_cons_zero,List.set_cons_succ,i64_w,i32_w]
                  rfl
                 refine pure_ (i:=26) (N:=some 159) (v:=?_) (a':=?_) #[true,true,true,true,true,true,true,true,true,true,true,true,true,true,true,true,true,true,true,true,true,true,true,true,true,true,true] rfl rfl (any_of HT_.out (by kernel_rfl)) (fun _ _ _ h=>h) (Or.inl ⟨by rfl,?_⟩) ?_ ?_
                 rotate_left
                 ·intro w'
                  go_simp
                  with_reducible rfl
                 rotate_left
                 ·simp only [Act.put,List.setIfInBounds_toArray,List.set_cons_zero,List.set_cons_succ,i64_w,i32_w]
                  rfl
                 refine done_ (done_of HT_.out (by kernel_rfl)) ?_
                 try go_wp2
                 go_roundg k4
                 case measure=>have:=HJ8.out;have:=HK2.out;have:=HK3.out;have:=HK4.out;omega
                 case rel=>exact ⟨(wrap64 (x14_4 + 1)),(by first|rfl|(simp;done)|(simp [*];done)),H',⟨by have:=HJ8.out;have:=HK2.out;have:=HK3.out;have:=HK4.out;omega⟩,⟨by (with_reducible repeat (first|refine blk_drewN ?_ _|refine blk_drew ?_|refine blk_alloc ?_ _));exact BK120.out⟩,⟨by (with_reducible repeat (first|refine blk_drewN ?_ _|refine blk_drew ?_|refine blk_alloc ?_ _));exact BK121.out⟩,⟨by (with_reducible repeat (first|refine blk_drewN ?_ _|refine blk_drew ?_|refine blk_alloc ?_ _));exact BK122.out⟩,⟨by (with_reducible repeat (first|refine blk_drewN ?_ _|refine blk_drew ?_|refine blk_alloc ?_ _));exact BK123.out⟩,⟨by repeat (first|(with_reducible first|exact HB.out|apply below_alloc|apply pw_below_drewN|apply below_drew1|refine below_set ?_ GE120.out|refine below_set ?_ GE121.out|refine below_set ?_ GE122.out|refine below_set ?_ GE123.out)|exact HB.out)⟩⟩
                ·rw [if_neg c113] at H
                 have c113b0 : (t146 == t147) = false:=beq_eq_false_iff_ne.mpr c113
                 have c113b1 : (t146 != t147) = true:=bne_iff_ne.mpr c113
                 exact absurd ((Option.some.inj H).trans hT_) (by decide)
               ·rw [if_neg c110] at H
                have c110b0 : (t144 == (wrap64 (t145 + 1))) = false:=beq_eq_false_iff_ne.mpr c110
                have c110b1 : (t144 != (wrap64 (t145 + 1))) = true:=bne_iff_ne.mpr c110
                exact absurd ((Option.some.inj H).trans hT_) (by decide)
              ·rw [if_neg c107] at H
               have c107b0 : (t142 == (wrap64 (t143 + 2))) = false:=beq_eq_false_iff_ne.mpr c107
               have c107b1 : (t142 != (wrap64 (t143 + 2))) = true:=bne_iff_ne.mpr c107
               exact absurd ((Option.some.inj H).trans hT_) (by decide)
             ·rw [if_neg c104] at H
              have c104b0 : decide (x14_4 < t119) = false:=decide_eq_false c104
              clear c104
              obtain rfl:=Option.some.inj H
              have hnb125:=NB120_121.out
              have hnc125:=NB121_120.out
              have hnb126:=NB120_122.out
              have hnc126:=NB122_120.out
              have hnb127:=NB120_123.out
              have hnc127:=NB123_120.out
              have hcz128_0 : wr.cell? ⟨gb120,0,none⟩ = some (.int .i64 (wrap64 (1 + t117))):=(blk_cell BK120.out 0).trans rfl
              have hcz128_1 : wr.cell? ⟨gb120,1,none⟩ = some (.int .i64 t118):=(blk_cell BK120.out 1).trans rfl
              have hcz128_2 : wr.cell? ⟨gb120,2,none⟩ = some (.int .i64 t119):=(blk_cell BK120.out 2).trans rfl
              have hcz128_3 : wr.cell? ⟨gb120,3,none⟩ = some (.int .u32 0):=(blk_cell BK120.out 3).trans rfl
              have hfz128_0:=blk_frozen BK120.out 0
              have hfz128_1:=blk_frozen BK120.out 1
              have hfz128_2:=blk_frozen BK120.out 2
              have hfz128_3:=blk_frozen BK120.out 3
              go_wp2
              go_ret
              exact ⟨by first|rfl|(simp [errW_none,errW_some] <;> rfl)|(simp [*,errW_none,errW_some] <;> rfl),by repeat (first|(with_reducible first|exact HB.out|apply below_alloc|apply pw_below_drewN|apply below_drew1|refine below_set ?_ GE120.out|refine below_set ?_ GE121.out|refine below_set ?_ GE122.out|refine below_set ?_ GE123.out)|exact HB.out)⟩
 ·replace c5:=Bool.eq_false_iff.mpr c5
  subst c5
  have H1 : (some false) = some r:=by rw [if_neg (show ¬ (false = true) by decide)] at H;exact H
  clear H
  have H:=H1
  clear H1
  exact absurd ((Option.some.inj H).trans hT_) (by decide)

/-- THE ONE PURE STATEMENT of hatstandlaw6_LayoutGrows: yours. -/
def hatstandlaw6_LayoutGrows.Pure : Prop:=∀ (a0 : Int) (a1 : Int) (a2 : Int),(Lit.int .i64 a0).wf = true → (Lit.int .i64 a1).wf = true → (Lit.int .i64 a2).wf = true → ∃ k,hatstandlaw6_LayoutGrows.f k a0 a1 a2 = some true
theorem hatstandlaw6_LayoutGrows.walk (P : hatstandlaw6_LayoutGrows.Pure) (a0 : Int) (a1 : Int) (a2 : Int) (w : World) (w0 : (Lit.int .i64 a0).wf = true) (w1 : (Lit.int .i64 a1).wf = true) (w2 : (Lit.int .i64 a2).wf = true) :
  Calls Try.prog 4 #[.int .i64 a0,.int .i64 a1,.int .i64 a2] w fun e w'=>e = .returned (.bool true)∧Below w.heap.size w w':=by
 obtain ⟨k,h⟩:=P a0 a1 a2 w0 w1 w2
 refine (hatstandlaw6_LayoutGrows.calls k a0 a1 a2 true w h rfl).mono ?_
 rintro e w' ⟨rfl,hd⟩
 exact ⟨rfl,hd⟩

end Go.Proofs.Ytckmcphphnoilaa.PLayoutGrows
