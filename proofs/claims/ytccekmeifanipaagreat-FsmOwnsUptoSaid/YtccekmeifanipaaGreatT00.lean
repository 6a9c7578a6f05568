/- Parts of the proof: Shelf -/
import Derived.Shelf.Sort.Plain
import Derived.Ground.Names2Prog
import Derived.Shelf.Slices.CompactI
import Derived.Shelf.Slices.In.SortNone
import Derived.Test.YtccekmeifanipaaGreatProg
namespace Go.Proofs.YtccekmeifanipaaGreat
set_option linter.unusedVariables false
set_option linter.unusedSimpArgs false
set_option linter.unusedSectionVars false
open Go.Shelf
def Tryz.Li:Go.Shelf.Ren:=⟨fun|189=>77|125=>106|257=>105|128=>131|129=>132|294=>122|295=>123|296=>124|297=>125|298=>126|299=>127|216=>128|300=>129|301=>130|328=>143|329=>144|330=>145|331=>146|332=>147|215=>148|343=>155|n=>n,fun|28=>45|3=>3|46=>148|0=>0|51=>169|53=>171|4=>4|183=>162|182=>161|131=>93|5=>5|9=>9|218=>179|222=>183|228=>188|229=>141|n=>n,fun|n=>n⟩
theorem Tryz.M7:Go.Proofs.Lays.n189 Tryz.prog Tryz.Li:={
 mixed:=by kernel_rfl
 f125:=Tryz.func106.trans (congrArg some (by kernel_rfl))
 f128:=Tryz.func131.trans (congrArg some (by kernel_rfl))
 f129:=Tryz.func132.trans (congrArg some (by kernel_rfl))
 f189:=Tryz.func77.trans (congrArg some (by kernel_rfl))
 f215:=Tryz.func148.trans (congrArg some (by kernel_rfl))
 f216:=Tryz.func128.trans (congrArg some (by kernel_rfl))
 f257:=Tryz.func105.trans (congrArg some (by kernel_rfl))
 f294:=Tryz.func122.trans (congrArg some (by kernel_rfl))
 f295:=Tryz.func123.trans (congrArg some (by kernel_rfl))
 f296:=Tryz.func124.trans (congrArg some (by kernel_rfl))
 f297:=Tryz.func125.trans (congrArg some (by kernel_rfl))
 f298:=Tryz.func126.trans (congrArg some (by kernel_rfl))
 f299:=Tryz.func127.trans (congrArg some (by kernel_rfl))
 f300:=Tryz.func129.trans (congrArg some (by kernel_rfl))
 f301:=Tryz.func130.trans (congrArg some (by kernel_rfl))
 f328:=Tryz.func143.trans (congrArg some (by kernel_rfl))
 f329:=Tryz.func144.trans (congrArg some (by kernel_rfl))
 f330:=Tryz.func145.trans (congrArg some (by kernel_rfl))
 f331:=Tryz.func146.trans (congrArg some (by kernel_rfl))
 f332:=Tryz.func147.trans (congrArg some (by kernel_rfl))
 f343:=Tryz.func155.trans (congrArg some (by kernel_rfl))
 t0:=Tryz.underlying0
 a0:=Tryz.isAgg0
 z0:=Tryz.sizeOf0
 v0:=Tryz.zeroValue0
 t3:=Tryz.underlying3
 a3:=Tryz.isAgg3
 z3:=Tryz.sizeOf3
 v3:=Tryz.zeroValue3
 t4:=Tryz.underlying4
 a4:=Tryz.isAgg4
 z4:=Tryz.sizeOf4
 v4:=Tryz.zeroValue4
 t5:=Tryz.underlying5
 a5:=Tryz.isAgg5
 z5:=Tryz.sizeOf5
 v5:=Tryz.zeroValue5
 t9:=Tryz.underlying9
 a9:=Tryz.isAgg9
 z9:=Tryz.sizeOf9
 v9:=Tryz.zeroValue9
 t28:=Tryz.underlying45
 a28:=Tryz.isAgg45
 z28:=Tryz.sizeOf45
 v28:=Tryz.zeroValue45
 t46:=Tryz.underlying148
 a46:=Tryz.isAgg148
 z46:=Tryz.sizeOf148
 v46:=Tryz.zeroValue148
 t51:=Tryz.underlying169
 a51:=Tryz.isAgg169
 z51:=Tryz.sizeOf169
 v51:=Tryz.zeroValue169
 t53:=Tryz.underlying171
 a53:=Tryz.isAgg171
 z53:=Tryz.sizeOf171
 v53:=Tryz.zeroValue171
 t131:=Tryz.underlying93
 a131:=Tryz.isAgg93
 z131:=Tryz.sizeOf93
 v131:=Tryz.zeroValue93
 t182:=Tryz.underlying161
 a182:=Tryz.isAgg161
 z182:=Tryz.sizeOf161
 v182:=Tryz.zeroValue161
 t183:=Tryz.underlying162
 a183:=Tryz.isAgg162
 z183:=Tryz.sizeOf162
 v183:=Tryz.zeroValue162
 t218:=Tryz.underlying179
 a218:=Tryz.isAgg179
 z218:=Tryz.sizeOf179
 v218:=Tryz.zeroValue179
 t222:=Tryz.underlying183
 a222:=Tryz.isAgg183
 z222:=Tryz.sizeOf183
 v222:=Tryz.zeroValue183
 t228:=Tryz.underlying188
 a228:=Tryz.isAgg188
 z228:=Tryz.sizeOf188
 v228:=Tryz.zeroValue188
 t229:=Tryz.underlying141
 a229:=Tryz.isAgg141
 z229:=Tryz.sizeOf141
 v229:=Tryz.zeroValue141 }
open Go.Sort Go.RowKit in
theorem Tryz.slices_Sort_int (blk off cap:Nat) (zs:List Int) (w:World) (hH:Holds (Value.int .i64) w blk off zs.toArray) (hblk:blk < w.heap.size) (hsz:zs.length < 4611686018427387904) :
  Calls Tryz.prog 77 #[.slice (some ⟨blk,off,none⟩) zs.length cap] w fun e w' =>
   e=.returned (.tuple #[])∧∃ n os,w' = grow (putRow (Value.int .i64) (Sort.ahead w n) blk off (zs.mergeSort fun x y=>decide (x≤y)).toArray) os:=Any.slices_Sort_int Tryz.M7 blk off cap zs w hH hblk hsz
def Tryz.Jp:Go.Shelf.Ren:=⟨fun|20=>78|n=>n,fun|22=>45|3=>3|4=>4|0=>0|n=>n,fun|n=>n⟩
theorem Tryz.J6:Go.Proofs.Lays2.n20 Tryz.prog Tryz.Jp:={
 mixed:=by kernel_rfl
 f20:=Tryz.func78.trans (congrArg some (by kernel_rfl))
 t0:=Tryz.underlying0
 a0:=Tryz.isAgg0
 z0:=Tryz.sizeOf0
 v0:=Tryz.zeroValue0
 t3:=Tryz.underlying3
 a3:=Tryz.isAgg3
 z3:=Tryz.sizeOf3
 v3:=Tryz.zeroValue3
 t4:=Tryz.underlying4
 a4:=Tryz.isAgg4
 z4:=Tryz.sizeOf4
 v4:=Tryz.zeroValue4
 t22:=Tryz.underlying45
 a22:=Tryz.isAgg45
 z22:=Tryz.sizeOf45
 v22:=Tryz.zeroValue45
 i3:=by kernel_rfl }
open Go.RowKit Go.Lib Go.Sort in
open Go.RowKit Go.Lib Go.Sort in
theorem Tryz.slices_Compact_int (blk off cap:Nat) (zs:List Int) (w:World) (hH:Holds (Value.int .i64) w blk off zs.toArray) (hsz:zs.length≤9223372036854775807) (hcap:zs.length≤cap) :
  Calls Tryz.prog 78 #[.slice (some ⟨blk,off,none⟩) zs.length cap] w fun e w'=>e=.returned (.slice (some ⟨blk,off,none⟩) (Lib.compact zs).length cap)∧∃ q,w' = putRow (Value.int .i64) (Sort.ahead w q) blk off (Lib.compact zs ++ List.replicate (zs.length - (Lib.compact zs).length) 0).toArray:=Any.slices_Compact_int Tryz.J6 blk off cap zs w hH hsz hcap
open Go.RowKit Go.Lib Go.Sort in
theorem Tryz.slices_Compact_int_empty (a:Option Addr) (cap:Nat) (w:World) :
  Calls Tryz.prog 78 #[.slice a 0 cap] w fun e w'=>e=.returned (.slice a 0 cap)∧w' = w:=Any.slices_Compact_int_empty Tryz.J6 a cap w
open Go.RowKit Go.Sort in
theorem Tryz.slices_Sort_int_none (p:Option Addr) (cap:Nat) (w:World) :
  Calls Tryz.prog 77 #[.slice p 0 cap] w fun e w'=>e=.returned (.tuple #[])∧w' = w:=Any.slices_Sort_int_none Tryz.M7 p cap w
end Go.Proofs.YtccekmeifanipaaGreat
