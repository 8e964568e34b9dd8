/- The program's types and functions in the abstract reading, its records as Lean structures, and the contracts of library functions. -/
import Derived.Test.YtbggpcnbbhjiaaaGreatDoorT1
set_option linter.unusedVariables false
set_option linter.unusedSimpArgs false
set_option linter.unnecessarySimpa false
section
namespace Go.Abs
open Go Go.Proofs
structure zf where
 f_L:(List Int)
 xk:Int
structure za where
 xx:(List UInt8)
 zG:Int
 vg:(List UInt8)
def za.cells (x:za):List V:= [qs x.xx,qi x.zG,qs x.vg]
structure zv where
 zh:(List (List za))
structure zc where
 zG:Int
 yl:(List UInt8)
 zt:zv
def zc.cells (x:zc):List V:= [qi x.zG,qs x.yl,ql 1 (cL 3 za.cells) x.zt.zh]
structure zB where
 zA:Int
 wj:(List UInt8)
 zY:(List UInt8)
def zB.cells (x:zB):List V:= [qi x.zA,qs x.wj,qs x.zY]
structure ze where
 zt:zv
 zP:zB
def ze.cells (x:ze):List V:= [ql 1 (cL 3 za.cells) x.zt.zh,qi x.zP.zA,qs x.zP.wj,qs x.zP.zY]
structure zz where
 uu:Int
 zC:(List UInt8)
 yk:Int
 zi:(List (List UInt8))
 xI:Bool
 xb:Bool
 jt:Bool
 zy:(List zc)
 ye:Int
 uc:Bool
 zg:(List ze)
def zz.cells (x:zz):List V:= [qi x.uu,qs x.zC,qi x.yk,ql 1 cS x.zi,qb x.xI,qb x.xb,qb x.jt,ql 3 zc.cells x.zy,qi x.ye,qb x.uc,ql 4 ze.cells x.zg]
structure yS where
 zcp:(List UInt8)
 wj:(List UInt8)
 Vi:(List (List (List UInt8)))
def yS.cells (x:yS):List V:= [qs x.zcp,qs x.wj,ql 1 (cL 1 cS) x.Vi]
structure yg where
 bw:Int
 qF:Int
 pT:Int
 pL:Int
 ko:Int
 kr:Int
def yg.cells (x:yg):List V:= [qi x.bw,qi x.qF,qi x.pT,qi x.pL,qi x.ko,qi x.kr]
structure zb where
 zF:Int
 zd:(List UInt8)
 uE:(List UInt8)
def zb.cells (x:zb):List V:= [qi x.zF,qs x.zd,qs x.uE]
structure zu where
 f_l:(List zb)
 yp:Bool
def zu.cells (x:zu):List V:= [ql 3 zb.cells x.f_l,qb x.yp]
structure yE where
 pW:zB
def yE.cells (x:yE):List V:= [qi x.pW.zA,qs x.pW.wj,qs x.pW.zY]
structure zn where
 f_b:(List UInt8)
 f_e:Int
def zn.cells (x:zn):List V:= [qs x.f_b,qi x.f_e]
structure zq where
 f_l:(List zb)
 dh:Int
 gV:Bool
def zq.cells (x:zq):List V:= [ql 3 zb.cells x.f_l,qi x.dh,qb x.gV]
structure zI where
 f_L:(List zb)
 xk:Int
def zI.cells (x:zI):List V:= [ql 3 zb.cells x.f_L,qi x.xk]
structure qH where
 V2:Int
 Zx:Int
 zi:(List (List UInt8))
structure yJ where
 Vu:Int
 pK:(List Int)
 uw:qH
def yJ.cells (x:yJ):List V:= [qi x.Vu,ql 1 (cI .i64) x.pK,qi x.uw.V2,qi x.uw.Zx,ql 1 cS x.uw.zi]
end Go.Abs
end
