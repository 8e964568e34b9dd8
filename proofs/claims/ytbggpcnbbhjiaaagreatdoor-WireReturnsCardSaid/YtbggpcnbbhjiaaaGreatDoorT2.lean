/- The program's types and functions in the abstract reading, its records as Lean structures, and the contracts of library functions. -/
import Derived.Test.YtbggpcnbbhjiaaaGreatDoorT1
set_option linter.unusedVariables false
set_option linter.unusedSimpArgs false
set_option linter.unnecessarySimpa false
section
namespace Go.Abs
open Go Go.Proofs
structure zh where
 f_L:(List Int)
 zO:Int
def zh.cells (x:zh):List V:= [ql 1 (cI .i64) x.f_L,qi x.zO]
structure zb where
 xQ:(List UInt8)
 zV:Int
 wQ:(List UInt8)
def zb.cells (x:zb):List V:= [qs x.xQ,qi x.zV,qs x.wQ]
structure zu where
 zo:(List (List zb))
def zu.cells (x:zu):List V:= [ql 1 (cL 3 zb.cells) x.zo]
structure zc where
 zV:Int
 xE:(List UInt8)
 zy:zu
def zc.cells (x:zc):List V:= [qi x.zV,qs x.xE,ql 1 (cL 3 zb.cells) x.zy.zo]
structure zv where
 zA:Int
 xL:(List UInt8)
 zY:(List UInt8)
def zv.cells (x:zv):List V:= [qi x.zA,qs x.xL,qs x.zY]
structure ze where
 zy:zu
 zE:zv
def ze.cells (x:ze):List V:= [ql 1 (cL 3 zb.cells) x.zy.zo,qi x.zE.zA,qs x.zE.xL,qs x.zE.zY]
structure zt where
 qq:Int
 zQ:(List UInt8)
 wa:Int
 zl:(List (List UInt8))
 uL:Bool
 ue:Bool
 br:Bool
 zK:(List zc)
 xl:Int
 qk:Bool
 zz:(List ze)
def zt.cells (x:zt):List V:= [qi x.qq,qs x.zQ,qi x.wa,ql 1 cS x.zl,qb x.uL,qb x.ue,qb x.br,ql 3 zc.cells x.zK,qi x.xl,qb x.qk,ql 4 ze.cells x.zz]
structure zL where
 cK:(List UInt8)
 xL:(List UInt8)
 gV:(List (List (List UInt8)))
def zL.cells (x:zL):List V:= [qs x.cK,qs x.xL,ql 1 (cL 1 cS) x.gV]
structure z7 where
 xa:Int
 zZ:Int
 zl:(List (List UInt8))
def z7.cells (x:z7):List V:= [qi x.xa,qi x.zZ,ql 1 cS x.zl]
structure zp where
 xF:Int
 zW:(List Int)
 zr:z7
def zp.cells (x:zp):List V:= [qi x.xF,ql 1 (cI .i64) x.zW,qi x.zr.xa,qi x.zr.zZ,ql 1 cS x.zr.zl]
structure yz where
 po:Int
 j9:Int
 dO:Int
 bz:Int
 jw:Int
 jz:Int
def yz.cells (x:yz):List V:= [qi x.po,qi x.j9,qi x.dO,qi x.bz,qi x.jw,qi x.jz]
structure zf where
 f_b:(List UInt8)
 f_e:Int
def zf.cells (x:zf):List V:= [qs x.f_b,qi x.f_e]
structure zd where
 zT:Int
 zq:(List UInt8)
 qP:(List UInt8)
def zd.cells (x:zd):List V:= [qi x.zT,qs x.zq,qs x.qP]
structure zg where
 f_l:(List zd)
 zX:Bool
def zg.cells (x:zg):List V:= [ql 3 zd.cells x.f_l,qb x.zX]
structure zI where
 qV:zv
def zI.cells (x:zI):List V:= [qi x.qV.zA,qs x.qV.xL,qs x.qV.zY]
end Go.Abs
end
