/- Shelf Normal -/
import Derived.Shelf.Small.Bits
import Derived.Shelf.Strconv.Itoa0
import Derived.Shelf.Slices.Turned
import Derived.Ground.Names2Prog
import Derived.Shelf.Slices.Clone
import Derived.Shelf.Slices.CompactI
import Derived.Shelf.Slices.Cells
import Derived.Ground.SlsfProg
import Derived.Shelf.SlSortCmp.SiftDown1
import Derived.Shelf.SlSortCmp.HeapSort1
import Derived.Shelf.SlSortCmp.Insertion1
import Derived.Shelf.SlSortCmp.Median1
import Derived.Shelf.SlSortCmp.Pivot1
import Derived.Shelf.SlSortCmp.ReverseRange1
import Derived.Shelf.SlSortCmp.PartialInsertion1
import Derived.Shelf.SlSortCmp.PartitionEqual1
import Derived.Shelf.SlSortCmp.Partition1
import Derived.Shelf.SlSortCmp.Pdq1
import Derived.Shelf.SlSortCmp.Whole1
import Derived.Shelf.SlSortCmp.NoneTotal
import Derived.Test.YticieifacalocaaProg
import Derived.Test.YticieifacalocaaTSG4
import Derived.Test.YticieifacalocaaTSG13
namespace Go.Proofs
open Go.Shelf
def Try.laysNm215_ren:Go.Shelf.Ren:=⟨fun|15=>99|n=>n,fun|22=>33|3=>3|4=>4|n=>n,fun|n=>n⟩
theorem Try.laysNm215:Go.Proofs.Lays2.n15 Try.prog Try.laysNm215_ren:={
 mixed:=by kernel_rfl
 f15:=Try.func99.trans (congrArg some (by kernel_rfl))
 t3:=Try.underlying3
 a3:=Try.isAgg3
 z3:=Try.sizeOf3
 v3:=Try.zeroValue3
 t4:=Try.underlying4
 a4:=Try.isAgg4
 z4:=Try.sizeOf4
 v4:=Try.zeroValue4
 t22:=Try.underlying33
 a22:=Try.isAgg33
 z22:=Try.sizeOf33
 v22:=Try.zeroValue33
 i3:=by kernel_rfl }
open Go.RowKit Go.Lib in
theorem Try.slices_Clone_int (b off n c:Nat) (zs:List Int) (w:World) (hz:n≤zs.length) (hbig:n * 8≤140737488355328) (hc:∀j,j<zs.length→w.cell? ⟨b,off+j,none⟩=some (.int .i64 (zs.getD j 0))) :
  Calls Try.prog 99 #[.slice (some ⟨b,off,none⟩) n c] w fun e w'=>∃v',e = .returned v'∧w'.ownsRow w.heap.size 3 1 v' n ((zs.take n).map (Value.int .i64))∧v' ≠ .slice none 0 0∧Below w.heap.size w w':=Any.slices_Clone_int Try.laysNm215 b off n c zs w hz hbig hc
def Try.laysNm220_ren:Go.Shelf.Ren:=⟨fun|20=>80|n=>n,fun|22=>33|3=>3|4=>4|0=>0|n=>n,fun|n=>n⟩
theorem Try.laysNm220:Go.Proofs.Lays2.n20 Try.prog Try.laysNm220_ren:={
 mixed:=by kernel_rfl
 f20:=Try.func80.trans (congrArg some (by kernel_rfl))
 t0:=Try.underlying0
 a0:=Try.isAgg0
 z0:=Try.sizeOf0
 v0:=Try.zeroValue0
 t3:=Try.underlying3
 a3:=Try.isAgg3
 z3:=Try.sizeOf3
 v3:=Try.zeroValue3
 t4:=Try.underlying4
 a4:=Try.isAgg4
 z4:=Try.sizeOf4
 v4:=Try.zeroValue4
 t22:=Try.underlying33
 a22:=Try.isAgg33
 z22:=Try.sizeOf33
 v22:=Try.zeroValue33
 i3:=by kernel_rfl }
open Go.RowKit Go.Lib Go.Sort in
theorem Try.slices_Compact_int (blk off cap:Nat) (zs:List Int) (w:World) (hH:Holds (Value.int .i64) w blk off zs.toArray) (hsz:zs.length≤9223372036854775807) (hcap:zs.length≤cap) :
  Calls Try.prog 80 #[.slice (some ⟨blk,off,none⟩) zs.length cap] w fun e w'=>e = .returned (.slice (some ⟨blk,off,none⟩) (Lib.compact zs).length cap)∧∃q,w'=putRow (Value.int .i64) (Sort.ahead w q) blk off (Lib.compact zs++List.replicate (zs.length-(Lib.compact zs).length) 0).toArray:=Any.slices_Compact_int Try.laysNm220 blk off cap zs w hH hsz hcap
open Go.RowKit Go.Lib Go.Sort in
theorem Try.slices_Compact_int_empty (a:Option Addr) (cap:Nat) (w:World) :
  Calls Try.prog 80 #[.slice a 0 cap] w fun e w'=>e = .returned (.slice a 0 cap)∧w'=w:=Any.slices_Compact_int_empty Try.laysNm220 a cap w
def Try.laysSlF6_f77_ren:Go.Shelf.Ren:=⟨fun|6=>77|15=>94|14=>93|28=>109|29=>110|20=>101|21=>102|22=>103|23=>104|24=>105|25=>106|26=>107|27=>108|46=>112|47=>113|48=>114|49=>115|50=>116|57=>117|n=>n,fun|22=>33|24=>3|25=>128|3=>3|39=>142|0=>0|53=>155|55=>157|4=>4|46=>148|45=>147|50=>152|5=>5|9=>9|66=>159|70=>163|76=>165|77=>166|n=>n,fun|n=>n⟩
theorem Try.laysSlF6_f77:Go.Proofs.SlLaysF.n6 Try.prog Try.laysSlF6_f77_ren:={
 mixed:=by kernel_rfl
 f6:=⟨Try.f77.name,by decide,Try.func77.trans (congrArg some (by kernel_rfl))⟩
 f14:=⟨Try.f93.name,by decide,Try.func93.trans (congrArg some (by kernel_rfl))⟩
 f15:=Try.func94.trans (congrArg some (by kernel_rfl))
 f20:=⟨Try.f101.name,by decide,Try.func101.trans (congrArg some (by kernel_rfl))⟩
 f21:=⟨Try.f102.name,by decide,Try.func102.trans (congrArg some (by kernel_rfl))⟩
 f22:=⟨Try.f103.name,by decide,Try.func103.trans (congrArg some (by kernel_rfl))⟩
 f23:=⟨Try.f104.name,by decide,Try.func104.trans (congrArg some (by kernel_rfl))⟩
 f24:=⟨Try.f105.name,by decide,Try.func105.trans (congrArg some (by kernel_rfl))⟩
 f25:=⟨Try.f106.name,by decide,Try.func106.trans (congrArg some (by kernel_rfl))⟩
 f26:=⟨Try.f107.name,by decide,Try.func107.trans (congrArg some (by kernel_rfl))⟩
 f27:=⟨Try.f108.name,by decide,Try.func108.trans (congrArg some (by kernel_rfl))⟩
 f28:=Try.func109.trans (congrArg some (by kernel_rfl))
 f29:=Try.func110.trans (congrArg some (by kernel_rfl))
 f46:=⟨Try.f112.name,by decide,Try.func112.trans (congrArg some (by kernel_rfl))⟩
 f47:=Try.func113.trans (congrArg some (by kernel_rfl))
 f48:=Try.func114.trans (congrArg some (by kernel_rfl))
 f49:=⟨Try.f115.name,by decide,Try.func115.trans (congrArg some (by kernel_rfl))⟩
 f50:=⟨Try.f116.name,by decide,Try.func116.trans (congrArg some (by kernel_rfl))⟩
 f57:=⟨Try.f117.name,by decide,Try.func117.trans (congrArg some (by kernel_rfl))⟩
 t0:=Try.underlying0
 a0:=Try.isAgg0
 z0:=Try.sizeOf0
 v0:=Try.zeroValue0
 t3:=Try.underlying3
 a3:=Try.isAgg3
 z3:=Try.sizeOf3
 v3:=Try.zeroValue3
 t4:=Try.underlying4
 a4:=Try.isAgg4
 z4:=Try.sizeOf4
 v4:=Try.zeroValue4
 t5:=Try.underlying5
 a5:=Try.isAgg5
 z5:=Try.sizeOf5
 v5:=Try.zeroValue5
 t9:=Try.underlying9
 a9:=Try.isAgg9
 z9:=Try.sizeOf9
 v9:=Try.zeroValue9
 t22:=Try.underlying33
 a22:=Try.isAgg33
 z22:=Try.sizeOf33
 v22:=Try.zeroValue33
 a24:=Try.isAgg3
 z24:=Try.sizeOf3
 t25:=Try.underlying128
 a25:=Try.isAgg128
 z25:=Try.sizeOf128
 v25:=Try.zeroValue128
 t39:=Try.underlying142
 a39:=Try.isAgg142
 z39:=Try.sizeOf142
 v39:=Try.zeroValue142
 t45:=Try.underlying147
 a45:=Try.isAgg147
 z45:=Try.sizeOf147
 v45:=Try.zeroValue147
 t46:=Try.underlying148
 a46:=Try.isAgg148
 z46:=Try.sizeOf148
 v46:=Try.zeroValue148
 t50:=Try.underlying152
 a50:=Try.isAgg152
 z50:=Try.sizeOf152
 v50:=Try.zeroValue152
 t53:=Try.underlying155
 a53:=Try.isAgg155
 z53:=Try.sizeOf155
 v53:=Try.zeroValue155
 t55:=Try.underlying157
 a55:=Try.isAgg157
 z55:=Try.sizeOf157
 v55:=Try.zeroValue157
 t66:=Try.underlying159
 a66:=Try.isAgg159
 z66:=Try.sizeOf159
 v66:=Try.zeroValue159
 t70:=Try.underlying163
 a70:=Try.isAgg163
 z70:=Try.sizeOf163
 v70:=Try.zeroValue163
 t76:=Try.underlying165
 a76:=Try.isAgg165
 z76:=Try.sizeOf165
 v76:=Try.zeroValue165
 t77:=Try.underlying166
 a77:=Try.isAgg166
 z77:=Try.sizeOf166
 v77:=Try.zeroValue166 }
def Try.laysSlF06_f77_ren:Go.Shelf.Ren:=⟨fun|6=>77|15=>94|14=>93|28=>109|29=>110|20=>101|21=>102|22=>103|23=>104|24=>105|25=>106|26=>107|27=>108|46=>112|47=>113|48=>114|49=>115|50=>116|57=>117|n=>n,fun|22=>33|24=>3|25=>128|3=>3|39=>142|0=>0|53=>155|55=>157|4=>4|46=>148|45=>147|50=>152|5=>5|9=>9|66=>159|70=>163|76=>165|77=>166|n=>n,fun|n=>n⟩
theorem Try.laysSlF06_f77:Go.Proofs.SlLaysF0.n6 Try.prog Try.laysSlF06_f77_ren:={
 mixed:=by kernel_rfl
 f6:=⟨Try.f77.name,by decide,Try.func77.trans (congrArg some (by kernel_rfl))⟩
 f14:=⟨Try.f93.name,by decide,Try.func93.trans (congrArg some (by kernel_rfl))⟩
 f15:=Try.func94.trans (congrArg some (by kernel_rfl))
 f20:=⟨Try.f101.name,by decide,Try.func101.trans (congrArg some (by kernel_rfl))⟩
 f21:=⟨Try.f102.name,by decide,Try.func102.trans (congrArg some (by kernel_rfl))⟩
 f22:=⟨Try.f103.name,by decide,Try.func103.trans (congrArg some (by kernel_rfl))⟩
 f23:=⟨Try.f104.name,by decide,Try.func104.trans (congrArg some (by kernel_rfl))⟩
 f24:=⟨Try.f105.name,by decide,Try.func105.trans (congrArg some (by kernel_rfl))⟩
 f25:=⟨Try.f106.name,by decide,Try.func106.trans (congrArg some (by kernel_rfl))⟩
 f26:=⟨Try.f107.name,by decide,Try.func107.trans (congrArg some (by kernel_rfl))⟩
 f27:=⟨Try.f108.name,by decide,Try.func108.trans (congrArg some (by kernel_rfl))⟩
 f28:=Try.func109.trans (congrArg some (by kernel_rfl))
 f29:=Try.func110.trans (congrArg some (by kernel_rfl))
 f46:=⟨Try.f112.name,by decide,Try.func112.trans (congrArg some (by kernel_rfl))⟩
 f47:=Try.func113.trans (congrArg some (by kernel_rfl))
 f48:=Try.func114.trans (congrArg some (by kernel_rfl))
 f49:=⟨Try.f115.name,by decide,Try.func115.trans (congrArg some (by kernel_rfl))⟩
 f50:=⟨Try.f116.name,by decide,Try.func116.trans (congrArg some (by kernel_rfl))⟩
 f57:=⟨Try.f117.name,by decide,Try.func117.trans (congrArg some (by kernel_rfl))⟩
 t0:=Try.underlying0
 a0:=Try.isAgg0
 z0:=Try.sizeOf0
 v0:=Try.zeroValue0
 t3:=Try.underlying3
 a3:=Try.isAgg3
 z3:=Try.sizeOf3
 v3:=Try.zeroValue3
 t4:=Try.underlying4
 a4:=Try.isAgg4
 z4:=Try.sizeOf4
 v4:=Try.zeroValue4
 t5:=Try.underlying5
 a5:=Try.isAgg5
 z5:=Try.sizeOf5
 v5:=Try.zeroValue5
 t9:=Try.underlying9
 a9:=Try.isAgg9
 z9:=Try.sizeOf9
 v9:=Try.zeroValue9
 t22:=Try.underlying33
 a22:=Try.isAgg33
 z22:=Try.sizeOf33
 v22:=Try.zeroValue33
 t25:=Try.underlying128
 a25:=Try.isAgg128
 z25:=Try.sizeOf128
 v25:=Try.zeroValue128
 t39:=Try.underlying142
 a39:=Try.isAgg142
 z39:=Try.sizeOf142
 v39:=Try.zeroValue142
 t45:=Try.underlying147
 a45:=Try.isAgg147
 z45:=Try.sizeOf147
 v45:=Try.zeroValue147
 t46:=Try.underlying148
 a46:=Try.isAgg148
 z46:=Try.sizeOf148
 v46:=Try.zeroValue148
 t50:=Try.underlying152
 a50:=Try.isAgg152
 z50:=Try.sizeOf152
 v50:=Try.zeroValue152
 t53:=Try.underlying155
 a53:=Try.isAgg155
 z53:=Try.sizeOf155
 v53:=Try.zeroValue155
 t55:=Try.underlying157
 a55:=Try.isAgg157
 z55:=Try.sizeOf157
 v55:=Try.zeroValue157
 t66:=Try.underlying159
 a66:=Try.isAgg159
 z66:=Try.sizeOf159
 v66:=Try.zeroValue159
 t70:=Try.underlying163
 a70:=Try.isAgg163
 z70:=Try.sizeOf163
 v70:=Try.zeroValue163
 t76:=Try.underlying165
 a76:=Try.isAgg165
 z76:=Try.sizeOf165
 v76:=Try.zeroValue165
 t77:=Try.underlying166
 a77:=Try.isAgg166
 z77:=Try.sizeOf166
 v77:=Try.zeroValue166 }
open Go.RowKit Go.Lib Go.Sort in
theorem Try.slices_SortFunc_none {α:Type} [Inhabited α] (p:Option Addr) (cap:Nat) (fv:Value) (w:World) :
  Calls Try.prog 77 #[.slice p 0 cap,fv] w fun e w'=>e = .returned (.tuple #[])∧w'=w:=AnyF.slices_SortFunc_none Try.laysSlF06_f77 p cap fv w
open Go.RowKit Go.Lib Go.Sort in
theorem Try.slices_SortFunc_total {α:Type} [Inhabited α] (enc:α→Value) (h1:OneCell enc) (cf:α→α→Int) (hO:SWO (ltOf cf)) (g:Nat) (cb:Array Value) (blk off cap:Nat) (d:Array α) (w:World) (eg:∀args w,(callFunc g args).run Try.prog w = .ok (.enter g args) w) (hcmp:CmpLays1 Try.prog g cb enc cf blk off d.size w) (hH:Holds enc w blk off d) (hblk:blk<w.heap.size) (hsz:d.size<4611686018427387904) (hT:∀x y,(ltOf cf) x y=false→(ltOf cf) y x=false→x=y) :
  Calls Try.prog 77 #[.slice (some ⟨blk,off,none⟩) d.size cap, .func (.func g) #[] cb] w fun e w' =>
   e = .returned (.tuple #[])∧∃n os,w'=sortWorld enc w blk off n (d.toList.mergeSort fun x y => !(ltOf cf) y x).toArray os:=Any.slices_SortFunc_total Try.laysSlF6_f77 enc h1 cf hO g cb blk off cap d w eg hcmp hH hblk hsz hT
end Go.Proofs
namespace Go.Proofs.Yticieifacalocaa
open Go.RowKit
theorem gJ (x:Int) (n:Nat) (w:World) (h:x.natAbs=n+1) (hx:I64 x) :
  Calls Try.prog 79 #[.int .i64 x] w fun e w'=>e = .returned (.int .i64 (n:Int))∧w=w':=by
 have hv:varOf x=(n:Int):=by
  unfold varOf
  split
  ·omega
  ·split<;>omega
 have:=oX x w hx
 rw [hv] at this
 exact this
theorem closure_ne (x y:Int) (n m:Nat) (w:World) (hx:I64 x) (hy:I64 y) (hn:x.natAbs=n+1) (hm:y.natAbs=m+1) (h:n≠m) (hx0:n+1≤9223372036854775807) (hy0:m+1≤9223372036854775807) :
  Calls Try.prog 78 #[.int .i64 x, .int .i64 y] w fun e w'=>e = .returned (.int .i64 ((n:Int)-m))∧w=w':=by
 have HN:=Lib.hid hn
 have HM:=Lib.hid hm
 have HX:=Lib.hid hx
 have HY:=Lib.hid hy
 obtain ⟨hx1,hx2⟩:=hx
 obtain ⟨hy1,hy2⟩:=hy
 have hn1:(n:Int)≤9223372036854775807:=by omega
 have hm1:(m:Int)≤9223372036854775807:=by omega
 have hb:((n:Int) != (m:Int))=true:=by simp;omega
 clear hn hm
 go_enter Try.func78,Try.ntmps78
 go_wp2_with fail
 refine (gJ x n _ HN.out HX.out).mono ?_
 rintro e w' ⟨rfl,rfl⟩
 go_wp2_with fail
 refine (gJ y m _ HM.out HY.out).mono ?_
 rintro e w' ⟨rfl,rfl⟩
 go_wp2_with fail
 go_ret
 exact ⟨rfl,rfl⟩
theorem closure_lt (x y:Int) (n m:Nat) (w:World) (hx:I64 x) (hy:I64 y) (hn:x.natAbs=n+1) (hm:y.natAbs=m+1) (h:n=m) (hxy:x<y) :
  Calls Try.prog 78 #[.int .i64 x, .int .i64 y] w fun e w'=>e = .returned (.int .i64 (-1))∧w=w':=by
 have HN:=Lib.hid hn
 have HM:=Lib.hid hm
 have HX:=Lib.hid hx
 have HY:=Lib.hid hy
 obtain ⟨hx1,hx2⟩:=hx
 obtain ⟨hy1,hy2⟩:=hy
 have hn1:(n:Int)≤9223372036854775807:=by omega
 have hm1:(m:Int)≤9223372036854775807:=by omega
 have hb:((n:Int) != (m:Int))=false:=by simp;omega
 clear h
 clear hn hm
 go_enter Try.func78,Try.ntmps78
 go_wp2_with fail
 refine (gJ x n _ HN.out HX.out).mono ?_
 rintro e w' ⟨rfl,rfl⟩
 go_wp2_with fail
 refine (gJ y m _ HM.out HY.out).mono ?_
 rintro e w' ⟨rfl,rfl⟩
 go_wp2_with fail
 go_ret
 exact ⟨rfl,rfl⟩
theorem closure_gt (x y:Int) (n m:Nat) (w:World) (hx:I64 x) (hy:I64 y) (hn:x.natAbs=n+1) (hm:y.natAbs=m+1) (h:n=m) (hxy:y<x) :
  Calls Try.prog 78 #[.int .i64 x, .int .i64 y] w fun e w'=>e = .returned (.int .i64 1)∧w=w':=by
 have HN:=Lib.hid hn
 have HM:=Lib.hid hm
 have HX:=Lib.hid hx
 have HY:=Lib.hid hy
 obtain ⟨hx1,hx2⟩:=hx
 obtain ⟨hy1,hy2⟩:=hy
 have hn1:(n:Int)≤9223372036854775807:=by omega
 have hm1:(m:Int)≤9223372036854775807:=by omega
 have hb:((n:Int) != (m:Int))=false:=by simp;omega
 clear h
 clear hn hm
 go_enter Try.func78,Try.ntmps78
 go_wp2_with fail
 refine (gJ x n _ HN.out HX.out).mono ?_
 rintro e w' ⟨rfl,rfl⟩
 go_wp2_with fail
 refine (gJ y m _ HM.out HY.out).mono ?_
 rintro e w' ⟨rfl,rfl⟩
 go_wp2_with fail
 go_ret
 exact ⟨rfl,rfl⟩
theorem closure_eq (x y:Int) (n m:Nat) (w:World) (hx:I64 x) (hy:I64 y) (hn:x.natAbs=n+1) (hm:y.natAbs=m+1) (h:n=m) (hxy:x=y) :
  Calls Try.prog 78 #[.int .i64 x, .int .i64 y] w fun e w'=>e = .returned (.int .i64 0)∧w=w':=by
 have HN:=Lib.hid hn
 have HM:=Lib.hid hm
 have HX:=Lib.hid hx
 have HY:=Lib.hid hy
 obtain ⟨hx1,hx2⟩:=hx
 obtain ⟨hy1,hy2⟩:=hy
 have hn1:(n:Int)≤9223372036854775807:=by omega
 have hm1:(m:Int)≤9223372036854775807:=by omega
 have hb:((n:Int) != (m:Int))=false:=by simp;omega
 have h1:¬x<y:=by omega
 have h2:¬y<x:=by omega
 clear h hxy
 clear hn hm
 go_enter Try.func78,Try.ntmps78
 go_wp2_with fail
 refine (gJ x n _ HN.out HX.out).mono ?_
 rintro e w' ⟨rfl,rfl⟩
 go_wp2_with fail
 refine (gJ y m _ HM.out HY.out).mono ?_
 rintro e w' ⟨rfl,rfl⟩
 go_wp2_with fail
 go_ret
 exact ⟨rfl,rfl⟩
theorem rP (x y:Lit1) (w:World) :
  Calls Try.prog 78 #[.int .i64 x.val, .int .i64 y.val] w fun e w'=>e = .returned (.int .i64 (cmpL x y))∧w=w':=by
 have hx:=x.ok
 have hy:=y.ok
 have ix:I64 x.val:=⟨by omega,by omega⟩
 have iy:I64 y.val:=⟨by omega,by omega⟩
 unfold cmpL
 by_cases a:x.val.natAbs=y.val.natAbs
 ·rw [if_neg (by simpa using a)]
  by_cases b:x.val<y.val
  ·rw [if_pos b];exact closure_lt _ _ (x.val.natAbs-1) (y.val.natAbs-1) w ix iy (by omega) (by omega) (by omega) b
  ·rw [if_neg b]
   by_cases c:y.val<x.val
   ·rw [if_pos c];exact closure_gt _ _ (x.val.natAbs-1) (y.val.natAbs-1) w ix iy (by omega) (by omega) (by omega) c
   ·rw [if_neg c];exact closure_eq _ _ (x.val.natAbs-1) (y.val.natAbs-1) w ix iy (by omega) (by omega) (by omega) (by omega)
 ·rw [if_pos (by simpa using a)]
  rw [show ((x.val.natAbs:Int)-(y.val.natAbs:Int))=((x.val.natAbs-1:Nat):Int)-((y.val.natAbs-1:Nat):Int) by omega]
  exact closure_ne _ _ (x.val.natAbs-1) (y.val.natAbs-1) w ix iy (by omega) (by omega) (by omega) (by omega) (by omega)
theorem cmpLays (blk off size:Nat) (w:World):CmpLays1 Try.prog 78 #[] encL cmpL blk off size w:=by
 refine CmpReads.lays ?_
 intro m os dk _ x y
 refine (rP x y _).mono ?_
 rintro e w' ⟨rfl,rfl⟩
 exact ⟨rfl,0,rfl⟩
def NormRet (w:World) (xs:List Int) (e:Ending) (w':World):Prop :=
 ∃v,e = .returned (.tuple #[v, .bool (wL xs).isSome])∧Own w' w.heap.size v ((wL xs).getD [])∧Below w.heap.size w w'
theorem dD {w w':World} {xs:List Int} (h:wL xs=none) (hb:Below w.heap.size w w'):NormRet w xs (.returned (.tuple #[.slice none 0 0, .bool false])) w':=by
 refine ⟨.slice none 0 0,by rw [h];rfl,?_,hb⟩
 rw [h]
 exact ⟨qG _ _ _ _,by simp⟩
theorem iQ {xs:List Int} {k:Nat} {x:Int} (h:xs[k]? = some x) (hb:wV x=true):wL xs=none :=
 dX (.inl ⟨x,List.mem_of_getElem? h,hb⟩)
set_option maxHeartbeats 1000000 in
theorem pI (v:Value) (xs:List Int) (w:World) (hv:Ints w v xs) (hlen:xs.length≤1000000) :
  Calls Try.prog 57 #[v] w (NormRet w xs):=by
 obtain ⟨A,c,rfl,hl,hm,hx,hr⟩:=hv
 obtain ⟨i0,hi,hz0,hz1,hz2⟩:=qC gB
 have HX:=Lib.hid hx
 have HR:=Lib.hid hr
 clear hx hr
 unfold maxLen at hm
 go_enter Try.func57,Try.ntmps57
 go_wp2_with (at_make;refine wpList_make_own _ rfl _ _ 33 rfl w.heap.size 3 i0 (.int .i64 0) 1 Try.underlying33 hi hz0 hz1 .i64 .i64 _ xs.length rfl rfl rfl (by rw [hz2];omega) (by unfold maxLen;omega) (Nat.le_refl _) ?_;intro w0 hown0 hg0)
 have hbw0:Below w.heap.size w w0:=(zN _ _).grown hg0 (Nat.le_refl _) (by simp)
 have HOWN0:=Lib.hid hown0
 have HBW0:=Lib.hid hbw0
 have HLEN:=Lib.hid hlen
 clear hown0 hg0 hbw0 hlen
 have hlenI:(xs.length:Int)≤1000000:=by have:=HLEN.out;omega
 go_loopw [4,13] (fun r i wr=>∃k:Nat,k≤xs.length∧i = .int .i64 k∧wr.ownsRow w.heap.size 3 1 r k ((xs.take k).map (Value.int .i64))∧Below w.heap.size w wr∧∀x∈xs.take k,wV x=false) (fun _ i _=>xs.length-(intOf i).toNat)
 case atStart=>exact ⟨0,by omega,rfl,by simpa using HOWN0.out,HBW0.out,by simp⟩
 case round =>
  obtain ⟨k,hk,rfl,hown,hbw,hgood⟩:=hrel
  have HOWN:=Lib.hid hown
  have HBW:=Lib.hid hbw
  have HG:=Lib.hid hgood
  clear hown hbw hgood
  obtain ⟨A1,cap1,rfl⟩:=bH HOWN.out
  by_cases hlt:k<xs.length
  ·obtain ⟨x,hxk⟩:∃x,xs[k]? = some x:=⟨_,List.getElem?_eq_getElem hlt⟩
   obtain ⟨b1,o1,rfl,hb1,hc1⟩:=(HR.out.keep HBW.out).int hxk
   have HXK:=Lib.hid hxk
   clear hxk
   by_cases hb0:wV x=true
   ·have HN:=Lib.hid (iQ HXK.out hb0)
    have hor:x=0∨x = -9223372036854775808:=by simpa [wV] using hb0
    clear hb0
    rcases hor with rfl|rfl
    ·go_wp2_with fail
     go_ret2
     exact dD HN.out HBW.out
    ·go_wp2_with fail
     go_ret2
     exact dD HN.out HBW.out
   ·have hb1':wV x=false:=by simpa using hb0
    have hor:(x == 0)=false∧(x == -9223372036854775808)=false:=by simpa [wV] using hb1'
    obtain ⟨e1,e2⟩:=hor
    have HGX:=Lib.hid hb1'
    clear hb0 hb1'
    go_wp2_with (at_builtin;refine xB _ rfl _ _ 33 rfl w.heap.size 3 i0 (.int .i64 0) 1 8 Try.underlying33 hi hz0 hz1 hz2 rfl (by decide) _ _ _ rfl (HOWN.out.alloc _) ⟨wr.heap.size,0,none⟩ 1 1 [.int .i64 x] rfl rfl ?c1 ?c2 ?c3 ?c4 ?c5 ?_)
    case c1 =>
     intro j u hj
     match j,hj with
     | 0,hj=>simp at hj;subst hj;simp [Addr.add]
    case c2=>intro u hu;simp at hu;subst hu;rfl
    case c3=>unfold maxLen;omega
    case c4=>omega
    case c5=>have:=HBW.out.size;simp;omega
    intro v' w2 hown' hgrow _
    have HO2:Hid (w2.ownsRow w.heap.size 3 1 v' (k+1) ((xs.take (k+1)).map (Value.int .i64))):=by
     rw [wN HXK.out,List.map_append,List.map_take];exact hown'
    have HB2:Hid (Below w.heap.size w w2):=(HBW.out.alloc HBW.out.size _).grown hgrow (by have:=HBW.out.size;simp;omega) (fun g hg=>(HOWN.out.lt g hg).1)
    clear hown' hgrow
    go_wp2_with fail
    refine ⟨⟨k+1,by omega,by go_num,HO2.out,HB2.out,?_⟩,by simp [intOf];omega⟩
    rw [wN HXK.out]
    intro y hy
    rcases zL.1 hy with hy|hy
    ·exact HG.out y hy
    ·simp at hy;subst hy;exact HGX.out
  ·have HT:Hid (xs.take k=xs):=zU (by omega)
   have HGA:Hid (∀x∈xs,wV x=false):=by have h:=HG.out;rwa [HT.out] at h
   obtain rfl:k=xs.length:=by omega
   have HOWN1:Hid (wr.ownsRow w.heap.size 3 1 (.slice A1 xs.length cap1) xs.length (xs.map (Value.int .i64))):=by have h:=HOWN.out;rwa [HT.out] at h
   clear HOWN HG HOWN0 HBW0
   by_cases hnil:xs=[]
   ·subst hnil
    go_wp2_with fail
    refine (Try.slices_SortFunc_none (α:=Lit1) A1 cap1 _ _).mono ?_
    rintro e w2 ⟨rfl,rfl⟩
    go_wp2_with fail
    refine (Try.slices_Compact_int_empty A1 cap1 _).mono ?_
    rintro e w2 ⟨rfl,rfl⟩
    go_wp2_with fail
    go_rounds 1
    go_ret2
    refine ⟨_,rfl,?_,HBW.out⟩
    exact ⟨by simpa [wL] using HOWN1.out,by simp [wL]⟩
   ·have hpos:0<xs.length:=by
     rcases xs with _|⟨x,r⟩
     ·exact absurd rfl hnil
     ·simp
    obtain ⟨g,cap,hv,hbase,hg,hn1,hn2⟩:=iY HOWN1.out hpos
    injection hv with hv1 _ hv3
    subst hv1 hv3
    obtain ⟨ls,hls⟩:=lits_of xs fun x hx=>by
     have h1:=HX.out x hx
     have h2:=HGA.out x hx
     have h3:=dT h2
     have h4:x ≠ -9223372036854775808:=by intro h;subst h;simp [wV] at h2
     unfold I64 at h1
     omega
    have hll:ls.toArray.size=xs.length:=by rw [←hls];simp
    have eg:∀args w,(callFunc 78 args).run Try.prog w = .ok (.enter 78 args) w:=enters_of Try.func78 (by kernel_rfl) rfl
    have hcon:=Try.slices_SortFunc_total encL (fun _=>rfl) cmpL swoL 78 #[] g 0 cap1 ls.toArray wr eg (cmpLays _ _ _ _) (nY HOWN1.out ls (by rw [←hls];simp [encL,Function.comp_def])) hg (by rw [hll];have:=HLEN.out;omega) totL
    rw [hll] at hcon
    have HCON:=Lib.hid hcon
    have HLS:=Lib.hid hls
    clear hcon hls hll eg hnil
    go_wp2_with fail
    refine HCON.out.mono ?_
    rintro e w2 ⟨rfl,n2,os2,hw2⟩
    obtain ⟨zs,hzs⟩:∃zs,zs=(ls.mergeSort fun x y => !ltOf cmpL y x).map Lit1.val:=⟨_,rfl⟩
    have hzl:zs.length=xs.length:=by rw [hzs,←HLS.out];simp
    have hown2:w2.ownsRow w.heap.size 3 1 (.slice (some ⟨g,0,none⟩) xs.length cap1) xs.length (zs.map (Value.int .i64)):=by
     have h:=sD (enc:=encL) (m:=n2) (os:=os2) HOWN1.out (ls.mergeSort fun x y => !ltOf cmpL y x) (by rw [←HLS.out];simp)
     rw [hzs,vT,hw2]
     exact h
    have hbw2:Below w.heap.size w w2:=by
     rw [hw2]
     refine HBW.out.grown (iJ (enc:=encL) (g:=g) _) HBW.out.size (fun k hk => ?_)
     injection hk with hk
     omega
    have hsort:=sortedL ls
    rw [HLS.out] at hsort
    have hs2:=hsort
    rw [←hzs] at hs2
    have HLAW:=Lib.hid (lR HGA.out hs2.2 hs2.1)
    have HMEM:=Lib.hid (eU zs hs2.1).1
    have HZM:=Lib.hid hs2.2
    have HZL:=Lib.hid hzl
    have HOWN2:=Lib.hid hown2
    have HBW2:=Lib.hid hbw2
    clear hw2 hzs hzl hown2 hbw2 hsort hs2 HCON
    have hcmp:=Try.slices_Compact_int g 0 cap1 zs w2 (nY HOWN2.out zs rfl) (by have:=HZL.out;omega) (by have:=HZL.out;omega)
    rw [HZL.out] at hcmp
    have HCMP:=Lib.hid hcmp
    clear hcmp
    go_wp2_with fail
    refine HCMP.out.mono ?_
    rintro e w3 ⟨rfl,q3,hw3⟩
    have hcl:(Lib.compact zs).length≤xs.length:=by
     rw [←HZL.out]
     have h:=yM (Lib.keeps zs.toArray) (List.range zs.length)
     simpa [Lib.compact,Lib.compactUpTo] using h
    have hown3:w3.ownsRow w.heap.size 3 1 (.slice (some ⟨g,0,none⟩) (Lib.compact zs).length cap1) (Lib.compact zs).length ((Lib.compact zs).map (Value.int .i64)):=by
     have h:=sD (enc:=Value.int .i64) (m:=q3) (os := #[]) HOWN2.out (Lib.compact zs++List.replicate (xs.length-(Lib.compact zs).length) 0) (by simp;omega)
     rw [Sort.grow_empty] at h
     have h2:=owns_cut h hcl
     rw [List.map_append,zY (by simp),zU (by simp)] at h2
     rw [hw3]
     exact h2
    have hbw3:Below w.heap.size w w3:=by
     rw [hw3]
     have h:=iJ (w:=w2) (enc:=Value.int .i64) (g:=g) (m:=q3) (os := #[]) (Lib.compact zs++List.replicate (xs.length-(Lib.compact zs).length) 0).toArray
     rw [Sort.grow_empty] at h
     refine HBW2.out.grown h HBW2.out.size (fun k hk => ?_)
     injection hk with hk
     omega
    generalize hT2:Lib.compact zs=t at *
    have HOWN3:=Lib.hid hown3
    have HBW3:=Lib.hid hbw3
    have hti:∀x∈t, -9223372036854775807≤x∧x≤9223372036854775807:=by
     intro x hx
     have h1:=(HZM.out x).1 ((HMEM.out x).1 hx)
     have h2:=HX.out x h1
     have h3:=HGA.out x h1
     have h4:x ≠ -9223372036854775808:=by intro h;subst h;simp [wV] at h3
     unfold I64 at h2
     omega
    have HTI:=Lib.hid hti
    clear hw3 hown3 hbw3 hT2 hti HCMP HOWN2 HBW2 HZL HZM HMEM HOWN1
    have htl:(t.length:Int)≤1000000:=by omega
    have HR3:=Lib.hid (Own.ints (base:=w.heap.size) ⟨HOWN3.out,fun x hx=>⟨by have:=(HTI.out x hx).1;omega,(HTI.out x hx).2⟩⟩:Ints w3 (.slice (some ⟨g,0,none⟩) t.length cap1) t)
    go_wp2_with fail
    go_loopw [7] (fun i wr=>∃k m:Nat,1≤k∧(k≤t.length∨k=1)∧i = .int .i64 k∧wr=w3.drewN m∧∀(j:Nat) (a b:Int),0<j→j<k→t[j-1]? = some a→t[j]? = some b→a ≠ -b) (fun i _=>t.length-(intOf i).toNat)
    case atStart=>exact ⟨1,0,by omega, .inr rfl,rfl,rfl,fun j a b h1 h2=>by omega⟩
    case round =>
     obtain ⟨k,m,hk1,hk2,rfl,rfl,hno⟩:=hrel
     have HNO:=Lib.hid hno
     clear hno
     by_cases hlt2:k<t.length
     ·obtain ⟨a,ha⟩:∃x,t[k-1]? = some x:=⟨_,List.getElem?_eq_getElem (by omega)⟩
      obtain ⟨b,hb⟩:∃x,t[k]? = some x:=⟨_,List.getElem?_eq_getElem hlt2⟩
      obtain ⟨A3,c3,hv3,_,_,_,hr3⟩:=HR3.out
      injection hv3 with hv4 _ hv5
      subst hv4 hv5
      obtain ⟨b1,o1,hA1,hb1,hc1⟩:=hr3.int ha
      obtain ⟨b2,o2,hA2,hb2,hc2⟩:=hr3.int hb
      injection hA1 with hA1
      injection hA2 with hA2
      injection hA1 with q1 q2
      injection hA2 with q3 q4
      subst q1 q2 q3 q4
      have hbb:=HTI.out b (List.mem_of_getElem? hb)
      have HA:=Lib.hid ha
      have HB:=Lib.hid hb
      clear ha hb hr3 hb2
      simp only [qY] at hc1 hc2
      by_cases hab:a = -b
      ·have HN:=Lib.hid (HLAW.out.1 ⟨k,a,b,by omega,HA.out,HB.out,hab⟩)
       have hbe:(a == -b)=true:=by simp [hab]
       clear hab
       go_wp2_with fail
       have y1:IntKind.i64.wrap ((k:Int)-1)=(k:Int)-1:=yG _ (by omega)
       have y2:0≤(k:Int)-1:=by omega
       have y3:(1:Int)≤(k:Int):=by omega
       have y4:((k:Int)-1).toNat=k-1:=by omega
       have y5:(k:Int)-1<(t.length:Int):=by omega
       have y6:IntKind.i64.wrap (-b) = -b:=yG _ (by omega)
       go_quiet (fail)
       clear y1 y2 y3 y4 y5 y6
       go_wp2_with fail
       go_ret2
       exact dD HN.out ⟨HBW3.out.os,HBW3.out.tape,HBW3.out.output,HBW3.out.size,HBW3.out.block⟩
      ·have hbe:(a == -b)=false:=by simp [hab]
       have HAB:=Lib.hid hab
       clear hab
       go_wp2_with fail
       have y1:IntKind.i64.wrap ((k:Int)-1)=(k:Int)-1:=yG _ (by omega)
       have y2:0≤(k:Int)-1:=by omega
       have y3:(1:Int)≤(k:Int):=by omega
       have y4:((k:Int)-1).toNat=k-1:=by omega
       have y5:(k:Int)-1<(t.length:Int):=by omega
       have y6:IntKind.i64.wrap (-b) = -b:=yG _ (by omega)
       go_quiet (fail)
       clear y1 y2 y3 y4 y5 y6
       go_wp2_with fail
       refine ⟨⟨k+1,_,by omega, .inl (by omega),by go_num,rfl,?_⟩,by simp [intOf];omega⟩
       intro j x y h1 h2 h3 h4
       by_cases e:j=k
       ·subst e
        rw [HA.out] at h3
        rw [HB.out] at h4
        injection h3 with h3
        injection h4 with h4
        subst h3 h4
        exact HAB.out
       ·exact HNO.out j x y h1 (by omega) h3 h4
     ·have HN:Hid (wL xs=some t):=by
       refine HLAW.out.2 ?_
       rintro ⟨i,a,b,h0,h1,h2,h3⟩
       have hi:i<t.length:=(zG.1 h2).1
       exact HNO.out i a b h0 (by omega) h1 h2 h3
      go_wp2_with fail
      go_ret2
      refine ⟨_,by rw [HN.out];rfl,?_,⟨HBW3.out.os,HBW3.out.tape,HBW3.out.output,HBW3.out.size,HBW3.out.block⟩⟩
      rw [HN.out]
      exact ⟨HOWN3.out,fun x hx=>⟨by have:=(HTI.out x hx).1;omega,(HTI.out x hx).2⟩⟩
end Go.Proofs.Yticieifacalocaa
