/-
  The program's count.
-/
import Derived.Test.YtnmcgdpmikhohaaGreatBe0aed0d
import Derived.Test.YtnmcgdpmikhohaaGreatB4b62e6d
import Derived.Test.YtnmcgdpmikhohaaGreatBeae6d8d
import Derived.Test.YtnmcgdpmikhohaaGreatB554fb14
set_option linter.unusedSimpArgs false
set_option linter.unusedVariables false
set_option maxHeartbeats 10000000
set_option maxRecDepth 100000
namespace Go.Proofs.YtnmcgdpmikhohaaGreat
open Go Go.Sim
theorem zage(t:zq):zi G zaeG [.d (zf t)] []=some (.d (.int .i64 (zan t 7 7)),[]):=by
 unfold zan
 cases c:t.done
 ·rw[zabn (by simp)]
  by_cases k:t.inv.kind=7
  ·rw[zabn zo];simp only[zf];exact zW zaeQ
  ·rw[zabo zo];simp only[zf];exact zW zaeQ
 ·rw[zabo rfl];simp only[zf];exact zW zaeQ
theorem zafP(a:zy)(t:zq)(n:Int)(h:zan t 7 7≠0):zi G zabl [.d (zx a),.d (zf t),.d (.int .i64 n)] []=some (.d (.tup [zx zM,zf zE,.sl [],.int .i64 (zan t 7 7)]),[]):=by
 have hr:=zage t;generalize zan t 7 7=g at *;replace h:=zabt h;simp only[zf,zE,zx,zM,zabq,zbg,zfA,zdt,zaJ,zbe,zA,zb2,zd1,zeM,zeB,zU,zfB,zaT,zcF,zbW,zdc,zat,zds,ze6,zT,zaH,zC] at *;exact zW zagj
end Go.Proofs.YtnmcgdpmikhohaaGreat
