/- The program's types and functions in the abstract reading, its records as Lean structures, and the contracts of library functions. -/
import Derived.Test.YtbggpcnbbhjiaaaGreatDoorT1
set_option linter.unusedVariables false
set_option linter.unusedSimpArgs false
set_option linter.unnecessarySimpa false
section
namespace Go.Abs
open Go Go.Proofs
structure zb where
 yA:(List UInt8)
 vT:Int
 xo:(List UInt8)
def zb.cells (x:zb):List V:= [qs x.yA,qi x.vT,qs x.xo]
structure zt where
 zl:(List (List zb))
def zt.cells (x:zt):List V:= [ql 1 (cL 3 zb.cells) x.zl]
structure zo where
 zq:Int
 xM:(List UInt8)
 zR:(List UInt8)
def zo.cells (x:zo):List V:= [qi x.zq,qs x.xM,qs x.zR]
structure zd where
 zS:zt
 zJ:zo
def zd.cells (x:zd):List V:= [ql 1 (cL 3 zb.cells) x.zS.zl,qi x.zJ.zq,qs x.zJ.xM,qs x.zJ.zR]
structure yj where
 vT:Int
 cp:(List UInt8)
 zS:zt
def yj.cells (x:yj):List V:= [qi x.vT,qs x.cp,ql 1 (cL 3 zb.cells) x.zS.zl]
structure zu where
 U9:Int
 dm:(List UInt8)
 Xh:Int
 z8:(List (List UInt8))
 VI:Bool
 Wx:Bool
 B4:Bool
 qX:(List yj)
 gz:Int
 Q8:Bool
 uv:(List zd)
def zu.cells (x:zu):List V:= [qi x.U9,qs x.dm,qi x.Xh,ql 1 cS x.z8,qb x.VI,qb x.Wx,qb x.B4,ql 3 yj.cells x.qX,qi x.gz,qb x.Q8,ql 4 zd.cells x.uv]
structure yR where
 pu:Int
 qG:Int
 pn:Int
 bR:Int
 j3:Int
 j7:Int
def yR.cells (x:yR):List V:= [qi x.pu,qi x.qG,qi x.pn,qi x.bR,qi x.j3,qi x.j7]
structure zf where
 f_b:(List UInt8)
 f_e:Int
def zf.cells (x:zf):List V:= [qs x.f_b,qi x.f_e]
structure zc where
 zG:Int
 zj:(List UInt8)
 wa:(List UInt8)
def zc.cells (x:zc):List V:= [qi x.zG,qs x.zj,qs x.wa]
structure ze where
 f_l:(List zc)
 zY:Bool
def ze.cells (x:ze):List V:= [ql 3 zc.cells x.f_l,qb x.zY]
structure zK where
 kD:zo
def zK.cells (x:zK):List V:= [qi x.kD.zq,qs x.kD.xM,qs x.kD.zR]
structure vk where
 gW:Int
 qk:Int
 z8:(List (List UInt8))
def vk.cells (x:vk):List V:= [qi x.gW,qi x.qk,ql 1 cS x.z8]
structure zM where
 pT:Int
 qc:(List Int)
 xz:vk
def zM.cells (x:zM):List V:= [qi x.pT,ql 1 (cI .i64) x.qc,qi x.xz.gW,qi x.xz.qk,ql 1 cS x.xz.z8]
structure zi where
 f_L:(List Int)
 yN:Int
def zi.cells (x:zi):List V:= [ql 1 (cI .i64) x.f_L,qi x.yN]
structure zn where
 f_l:(List zc)
 ZE:Int
 Yv:Bool
def zn.cells (x:zn):List V:= [ql 3 zc.cells x.f_l,qi x.ZE,qb x.Yv]
structure zk where
 f_L:(List zc)
 yN:Int
def zk.cells (x:zk):List V:= [ql 3 zc.cells x.f_L,qi x.yN]
end Go.Abs
end
