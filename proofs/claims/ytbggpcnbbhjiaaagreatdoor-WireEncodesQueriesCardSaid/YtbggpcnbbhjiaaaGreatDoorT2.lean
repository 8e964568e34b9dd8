/- The program's types and functions in the abstract reading, its records as Lean structures, and the contracts of library functions. -/
import Derived.Test.YtbggpcnbbhjiaaaGreatDoorT1
set_option linter.unusedVariables false
set_option linter.unusedSimpArgs false
set_option linter.unnecessarySimpa false
section
namespace Go.Abs
open Go Go.Proofs
structure zb where
 yS:(List UInt8)
 zI:Int
 wo:(List UInt8)
def zb.cells (x:zb):List V:= [qs x.yS,qi x.zI,qs x.wo]
structure zu where
 zk:(List (List zb))
def zu.cells (x:zu):List V:= [ql 1 (cL 3 zb.cells) x.zk]
structure zc where
 zI:Int
 ye:(List UInt8)
 zr:zu
def zc.cells (x:zc):List V:= [qi x.zI,qs x.ye,ql 1 (cL 3 zb.cells) x.zr.zk]
structure zB where
 zA:Int
 wm:(List UInt8)
 zT:(List UInt8)
def zB.cells (x:zB):List V:= [qi x.zA,qs x.wm,qs x.zT]
structure ze where
 zr:zu
 zw:zB
def ze.cells (x:ze):List V:= [ql 1 (cL 3 zb.cells) x.zr.zk,qi x.zw.zA,qs x.zw.wm,qs x.zw.zT]
structure zl where
 qT:Int
 zM:(List UInt8)
 wb:Int
 zo:(List (List UInt8))
 qj:Bool
 jG:Bool
 g9:Bool
 zD:(List zc)
 yU:Int
 bz:Bool
 zn:(List ze)
def zl.cells (x:zl):List V:= [qi x.qT,qs x.zM,qi x.wb,ql 1 cS x.zo,qb x.qj,qb x.jG,qb x.g9,ql 3 zc.cells x.zD,qi x.yU,qb x.bz,ql 4 ze.cells x.zn]
structure yi where
 gB:Int
 qZ:Int
 pj:Int
 gE:Int
 j7:Int
 qc:Int
def yi.cells (x:yi):List V:= [qi x.gB,qi x.qZ,qi x.pj,qi x.gE,qi x.j7,qi x.qc]
structure zd where
 f_b:(List UInt8)
 f_e:Int
def zd.cells (x:zd):List V:= [qs x.f_b,qi x.f_e]
structure zj where
 VN:Int
 bh:(List UInt8)
 nt:(List UInt8)
def zj.cells (x:zj):List V:= [qi x.VN,qs x.bh,qs x.nt]
structure zg where
 f_l:(List zj)
 vq:Bool
def zg.cells (x:zg):List V:= [ql 3 zj.cells x.f_l,qb x.vq]
structure vJ where
 pa:Int
 qU:Int
 zo:(List (List UInt8))
def vJ.cells (x:vJ):List V:= [qi x.pa,qi x.qU,ql 1 cS x.zo]
structure zL where
 ZQ:Int
 qJ:(List Int)
 xL:vJ
def zL.cells (x:zL):List V:= [qi x.ZQ,ql 1 (cI .i64) x.qJ,qi x.xL.pa,qi x.xL.qU,ql 1 cS x.xL.zo]
structure zh where
 f_L:(List Int)
 zW:Int
def zh.cells (x:zh):List V:= [ql 1 (cI .i64) x.f_L,qi x.zW]
structure zO where
 fJ:(List UInt8)
 wm:(List UInt8)
 pI:(List (List (List UInt8)))
def zO.cells (x:zO):List V:= [qs x.fJ,qs x.wm,ql 1 (cL 1 cS) x.pI]
end Go.Abs
end
