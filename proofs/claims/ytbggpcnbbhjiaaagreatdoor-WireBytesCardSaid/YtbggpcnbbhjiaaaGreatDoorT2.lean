/- The program's types and functions in the abstract reading, its records as Lean structures, and the contracts of library functions. -/
import Derived.Test.YtbggpcnbbhjiaaaGreatDoorT1
set_option linter.unusedVariables false
set_option linter.unusedSimpArgs false
set_option linter.unnecessarySimpa false
section
namespace Go.Abs
open Go Go.Proofs
structure zb where
 wi:(List UInt8)
 zG:Int
 vA:(List UInt8)
def zb.cells (x:zb):List V:= [qs x.wi,qi x.zG,qs x.vA]
structure zC where
 zg:(List (List zb))
structure zd where
 zG:Int
 yy:(List UInt8)
 zo:zC
def zd.cells (x:zd):List V:= [qi x.zG,qs x.yy,ql 1 (cL 3 zb.cells) x.zo.zg]
structure zF where
 zy:Int
 wL:(List UInt8)
 zY:(List UInt8)
def zF.cells (x:zF):List V:= [qi x.zy,qs x.wL,qs x.zY]
structure zj where
 zo:zC
 zK:zF
def zj.cells (x:zj):List V:= [ql 1 (cL 3 zb.cells) x.zo.zg,qi x.zK.zy,qs x.zK.wL,qs x.zK.zY]
structure zz where
 uB:Int
 zB:(List UInt8)
 yk:Int
 ze:(List (List UInt8))
 wr:Bool
 xI:Bool
 jy:Bool
 zw:(List zd)
 yj:Int
 uA:Bool
 zf:(List zj)
def zz.cells (x:zz):List V:= [qi x.uB,qs x.zB,qi x.yk,ql 1 cS x.ze,qb x.wr,qb x.xI,qb x.jy,ql 3 zd.cells x.zw,qi x.yj,qb x.uA,ql 4 zj.cells x.zf]
structure yd where
 kZ:Int
 qo:Int
 pp:Int
 pf:Int
 qS:Int
 qW:Int
def yd.cells (x:yd):List V:= [qi x.kZ,qi x.qo,qi x.pp,qi x.pf,qi x.qS,qi x.qW]
structure za where
 zA:Int
 zc:(List UInt8)
 jL:(List UInt8)
def za.cells (x:za):List V:= [qi x.zA,qs x.zc,qs x.jL]
structure zl where
 f_l:(List za)
 z7:Bool
def zl.cells (x:zl):List V:= [ql 3 za.cells x.f_l,qb x.z7]
structure yD where
 pr:zF
def yD.cells (x:yD):List V:= [qi x.pr.zy,qs x.pr.wL,qs x.pr.zY]
structure zk where
 f_b:(List UInt8)
 f_e:Int
def zk.cells (x:zk):List V:= [qs x.f_b,qi x.f_e]
structure zh where
 f_l:(List za)
 bI:Int
 jP:Bool
def zh.cells (x:zh):List V:= [ql 3 za.cells x.f_l,qi x.bI,qb x.jP]
structure zI where
 f_L:(List za)
 eA:Int
def zI.cells (x:zI):List V:= [ql 3 za.cells x.f_L,qi x.eA]
structure yX where
 yB:Int
 zT:Int
 ze:(List (List UInt8))
def yX.cells (x:yX):List V:= [qi x.yB,qi x.zT,ql 1 cS x.ze]
structure zu where
 xj:Int
 zM:(List Int)
 zi:yX
def zu.cells (x:zu):List V:= [qi x.xj,ql 1 (cI .i64) x.zM,qi x.zi.yB,qi x.zi.zT,ql 1 cS x.zi.ze]
end Go.Abs
end
