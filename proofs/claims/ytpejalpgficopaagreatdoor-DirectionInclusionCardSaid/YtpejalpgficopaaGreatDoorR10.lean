/- A part of what the law's proof leans on. PACKED BY pack.py of this repo. -/
import Derived.Test.YtpejalpgficopaaGreatDoorR9
section
namespace Go.Proofs.YtpejalpgficopaaGreatDoor.G
open Go Go.Proofs RX
set_option linter.unusedVariables false
set_option linter.unusedSimpArgs false
def prS (a0_0:Bool) (a0_1:ByteArray) (a0_2:Bool) (a0_3:ByteArray) (a0_4:Bool) (a0_5:ByteArray) (a0_6:Bool) (a0_7:ByteArray) (a0_8:Bool) (a0_9:ByteArray) (a1_0:Bool) (a1_1:ByteArray) (a1_2:Bool) (a1_3:ByteArray) (a1_4:Bool) (a1_5:ByteArray) (a1_6:Bool) (a1_7:ByteArray) (a1_8:Bool) (a1_9:ByteArray):PrS:=⟨false,(⟨#[]⟩:ByteArray),false,(⟨#[]⟩:ByteArray),false,(⟨#[]⟩:ByteArray),false,(⟨#[]⟩:ByteArray),false,(⟨#[]⟩:ByteArray),false,(⟨#[]⟩:ByteArray),false,(⟨#[]⟩:ByteArray),false,(⟨#[]⟩:ByteArray),false,(⟨#[]⟩:ByteArray),a0_0,a0_1,a0_2,a0_3,a0_4,a0_5,a0_6,a0_7,a0_0,a0_1,a0_2,a0_3,a0_4,a0_5,a0_6,a0_7,a0_8,a0_9,a1_0,a1_1,a1_2,a1_3,a1_4,a1_5,a1_6,a1_7,a1_8,a1_9⟩
set_option maxRecDepth 100000 in
theorem product.run (fM:Bool→ByteArray→Bool→ByteArray→(Bool×ByteArray)) (pM:Bool→ByteArray→Bool→ByteArray→Bool) (fL:Bool→ByteArray→Bool→ByteArray→Bool→ByteArray→Bool→ByteArray→Bool→ByteArray→T10) (pL:Bool→ByteArray→Bool→ByteArray→Bool→ByteArray→Bool→ByteArray→Bool→ByteArray→Bool) (a0_0:Bool) (a0_1:ByteArray) (a0_2:Bool) (a0_3:ByteArray) (a0_4:Bool) (a0_5:ByteArray) (a0_6:Bool) (a0_7:ByteArray) (a0_8:Bool) (a0_9:ByteArray) (a1_0:Bool) (a1_1:ByteArray) (a1_2:Bool) (a1_3:ByteArray) (a1_4:Bool) (a1_5:ByteArray) (a1_6:Bool) (a1_7:ByteArray) (a1_8:Bool) (a1_9:ByteArray):
 xfn Tryz.prog ⟨[(163,bigint_Mul.sp fM pM),(164,field_lowest.sp fL pL)],[],[]⟩ [(0,pro.t)] 60 Tryz.f161 [.agg ⟨[.bool a0_0,.string a0_1,.bool a0_2,.string a0_3,.bool a0_4,.string a0_5,.bool a0_6,.string a0_7,.bool a0_8,.string a0_9]⟩,.agg ⟨[.bool a1_0,.string a1_1,.bool a1_2,.string a1_3,.bool a1_4,.string a1_5,.bool a1_6,.string a1_7,.bool a1_8,.string a1_9]⟩] []= bif pro.need (prS a0_0 a0_1 a0_2 a0_3 a0_4 a0_5 a0_6 a0_7 a0_8 a0_9 a1_0 a1_1 a1_2 a1_3 a1_4 a1_5 a1_6 a1_7 a1_8 a1_9) then bif pM a0_8 a0_9 a1_8 a1_9 then bif pL (prS a0_0 a0_1 a0_2 a0_3 a0_4 a0_5 a0_6 a0_7 a0_8 a0_9 a1_0 a1_1 a1_2 a1_3 a1_4 a1_5 a1_6 a1_7 a1_8 a1_9).fin.cn0 (prS a0_0 a0_1 a0_2 a0_3 a0_4 a0_5 a0_6 a0_7 a0_8 a0_9 a1_0 a1_1 a1_2 a1_3 a1_4 a1_5 a1_6 a1_7 a1_8 a1_9).fin.cs0 (prS a0_0 a0_1 a0_2 a0_3 a0_4 a0_5 a0_6 a0_7 a0_8 a0_9 a1_0 a1_1 a1_2 a1_3 a1_4 a1_5 a1_6 a1_7 a1_8 a1_9).fin.cn1 (prS a0_0 a0_1 a0_2 a0_3 a0_4 a0_5 a0_6 a0_7 a0_8 a0_9 a1_0 a1_1 a1_2 a1_3 a1_4 a1_5 a1_6 a1_7 a1_8 a1_9).fin.cs1 (prS a0_0 a0_1 a0_2 a0_3 a0_4 a0_5 a0_6 a0_7 a0_8 a0_9 a1_0 a1_1 a1_2 a1_3 a1_4 a1_5 a1_6 a1_7 a1_8 a1_9).fin.cn2 (prS a0_0 a0_1 a0_2 a0_3 a0_4 a0_5 a0_6 a0_7 a0_8 a0_9 a1_0 a1_1 a1_2 a1_3 a1_4 a1_5 a1_6 a1_7 a1_8 a1_9).fin.cs2 (prS a0_0 a0_1 a0_2 a0_3 a0_4 a0_5 a0_6 a0_7 a0_8 a0_9 a1_0 a1_1 a1_2 a1_3 a1_4 a1_5 a1_6 a1_7 a1_8 a1_9).fin.cn3 (prS a0_0 a0_1 a0_2 a0_3 a0_4 a0_5 a0_6 a0_7 a0_8 a0_9 a1_0 a1_1 a1_2 a1_3 a1_4 a1_5 a1_6 a1_7 a1_8 a1_9).fin.cs3 (fM a0_8 a0_9 a1_8 a1_9).1 (fM a0_8 a0_9 a1_8 a1_9).2 then some (.agg ⟨[.bool (fL (prS a0_0 a0_1 a0_2 a0_3 a0_4 a0_5 a0_6 a0_7 a0_8 a0_9 a1_0 a1_1 a1_2 a1_3 a1_4 a1_5 a1_6 a1_7 a1_8 a1_9).fin.cn0 (prS a0_0 a0_1 a0_2 a0_3 a0_4 a0_5 a0_6 a0_7 a0_8 a0_9 a1_0 a1_1 a1_2 a1_3 a1_4 a1_5 a1_6 a1_7 a1_8 a1_9).fin.cs0 (prS a0_0 a0_1 a0_2 a0_3 a0_4 a0_5 a0_6 a0_7 a0_8 a0_9 a1_0 a1_1 a1_2 a1_3 a1_4 a1_5 a1_6 a1_7 a1_8 a1_9).fin.cn1 (prS a0_0 a0_1 a0_2 a0_3 a0_4 a0_5 a0_6 a0_7 a0_8 a0_9 a1_0 a1_1 a1_2 a1_3 a1_4 a1_5 a1_6 a1_7 a1_8 a1_9).fin.cs1 (prS a0_0 a0_1 a0_2 a0_3 a0_4 a0_5 a0_6 a0_7 a0_8 a0_9 a1_0 a1_1 a1_2 a1_3 a1_4 a1_5 a1_6 a1_7 a1_8 a1_9).fin.cn2 (prS a0_0 a0_1 a0_2 a0_3 a0_4 a0_5 a0_6 a0_7 a0_8 a0_9 a1_0 a1_1 a1_2 a1_3 a1_4 a1_5 a1_6 a1_7 a1_8 a1_9).fin.cs2 (prS a0_0 a0_1 a0_2 a0_3 a0_4 a0_5 a0_6 a0_7 a0_8 a0_9 a1_0 a1_1 a1_2 a1_3 a1_4 a1_5 a1_6 a1_7 a1_8 a1_9).fin.cn3 (prS a0_0 a0_1 a0_2 a0_3 a0_4 a0_5 a0_6 a0_7 a0_8 a0_9 a1_0 a1_1 a1_2 a1_3 a1_4 a1_5 a1_6 a1_7 a1_8 a1_9).fin.cs3 (fM a0_8 a0_9 a1_8 a1_9).1 (fM a0_8 a0_9 a1_8 a1_9).2).1,.string (fL (prS a0_0 a0_1 a0_2 a0_3 a0_4 a0_5 a0_6 a0_7 a0_8 a0_9 a1_0 a1_1 a1_2 a1_3 a1_4 a1_5 a1_6 a1_7 a1_8 a1_9).fin.cn0 (prS a0_0 a0_1 a0_2 a0_3 a0_4 a0_5 a0_6 a0_7 a0_8 a0_9 a1_0 a1_1 a1_2 a1_3 a1_4 a1_5 a1_6 a1_7 a1_8 a1_9).fin.cs0 (prS a0_0 a0_1 a0_2 a0_3 a0_4 a0_5 a0_6 a0_7 a0_8 a0_9 a1_0 a1_1 a1_2 a1_3 a1_4 a1_5 a1_6 a1_7 a1_8 a1_9).fin.cn1 (prS a0_0 a0_1 a0_2 a0_3 a0_4 a0_5 a0_6 a0_7 a0_8 a0_9 a1_0 a1_1 a1_2 a1_3 a1_4 a1_5 a1_6 a1_7 a1_8 a1_9).fin.cs1 (prS a0_0 a0_1 a0_2 a0_3 a0_4 a0_5 a0_6 a0_7 a0_8 a0_9 a1_0 a1_1 a1_2 a1_3 a1_4 a1_5 a1_6 a1_7 a1_8 a1_9).fin.cn2 (prS a0_0 a0_1 a0_2 a0_3 a0_4 a0_5 a0_6 a0_7 a0_8 a0_9 a1_0 a1_1 a1_2 a1_3 a1_4 a1_5 a1_6 a1_7 a1_8 a1_9).fin.cs2 (prS a0_0 a0_1 a0_2 a0_3 a0_4 a0_5 a0_6 a0_7 a0_8 a0_9 a1_0 a1_1 a1_2 a1_3 a1_4 a1_5 a1_6 a1_7 a1_8 a1_9).fin.cn3 (prS a0_0 a0_1 a0_2 a0_3 a0_4 a0_5 a0_6 a0_7 a0_8 a0_9 a1_0 a1_1 a1_2 a1_3 a1_4 a1_5 a1_6 a1_7 a1_8 a1_9).fin.cs3 (fM a0_8 a0_9 a1_8 a1_9).1 (fM a0_8 a0_9 a1_8 a1_9).2).2.1,.bool (fL (prS a0_0 a0_1 a0_2 a0_3 a0_4 a0_5 a0_6 a0_7 a0_8 a0_9 a1_0 a1_1 a1_2 a1_3 a1_4 a1_5 a1_6 a1_7 a1_8 a1_9).fin.cn0 (prS a0_0 a0_1 a0_2 a0_3 a0_4 a0_5 a0_6 a0_7 a0_8 a0_9 a1_0 a1_1 a1_2 a1_3 a1_4 a1_5 a1_6 a1_7 a1_8 a1_9).fin.cs0 (prS a0_0 a0_1 a0_2 a0_3 a0_4 a0_5 a0_6 a0_7 a0_8 a0_9 a1_0 a1_1 a1_2 a1_3 a1_4 a1_5 a1_6 a1_7 a1_8 a1_9).fin.cn1 (prS a0_0 a0_1 a0_2 a0_3 a0_4 a0_5 a0_6 a0_7 a0_8 a0_9 a1_0 a1_1 a1_2 a1_3 a1_4 a1_5 a1_6 a1_7 a1_8 a1_9).fin.cs1 (prS a0_0 a0_1 a0_2 a0_3 a0_4 a0_5 a0_6 a0_7 a0_8 a0_9 a1_0 a1_1 a1_2 a1_3 a1_4 a1_5 a1_6 a1_7 a1_8 a1_9).fin.cn2 (prS a0_0 a0_1 a0_2 a0_3 a0_4 a0_5 a0_6 a0_7 a0_8 a0_9 a1_0 a1_1 a1_2 a1_3 a1_4 a1_5 a1_6 a1_7 a1_8 a1_9).fin.cs2 (prS a0_0 a0_1 a0_2 a0_3 a0_4 a0_5 a0_6 a0_7 a0_8 a0_9 a1_0 a1_1 a1_2 a1_3 a1_4 a1_5 a1_6 a1_7 a1_8 a1_9).fin.cn3 (prS a0_0 a0_1 a0_2 a0_3 a0_4 a0_5 a0_6 a0_7 a0_8 a0_9 a1_0 a1_1 a1_2 a1_3 a1_4 a1_5 a1_6 a1_7 a1_8 a1_9).fin.cs3 (fM a0_8 a0_9 a1_8 a1_9).1 (fM a0_8 a0_9 a1_8 a1_9).2).2.2.1,.string (fL (prS a0_0 a0_1 a0_2 a0_3 a0_4 a0_5 a0_6 a0_7 a0_8 a0_9 a1_0 a1_1 a1_2 a1_3 a1_4 a1_5 a1_6 a1_7 a1_8 a1_9).fin.cn0 (prS a0_0 a0_1 a0_2 a0_3 a0_4 a0_5 a0_6 a0_7 a0_8 a0_9 a1_0 a1_1 a1_2 a1_3 a1_4 a1_5 a1_6 a1_7 a1_8 a1_9).fin.cs0 (prS a0_0 a0_1 a0_2 a0_3 a0_4 a0_5 a0_6 a0_7 a0_8 a0_9 a1_0 a1_1 a1_2 a1_3 a1_4 a1_5 a1_6 a1_7 a1_8 a1_9).fin.cn1 (prS a0_0 a0_1 a0_2 a0_3 a0_4 a0_5 a0_6 a0_7 a0_8 a0_9 a1_0 a1_1 a1_2 a1_3 a1_4 a1_5 a1_6 a1_7 a1_8 a1_9).fin.cs1 (prS a0_0 a0_1 a0_2 a0_3 a0_4 a0_5 a0_6 a0_7 a0_8 a0_9 a1_0 a1_1 a1_2 a1_3 a1_4 a1_5 a1_6 a1_7 a1_8 a1_9).fin.cn2 (prS a0_0 a0_1 a0_2 a0_3 a0_4 a0_5 a0_6 a0_7 a0_8 a0_9 a1_0 a1_1 a1_2 a1_3 a1_4 a1_5 a1_6 a1_7 a1_8 a1_9).fin.cs2 (prS a0_0 a0_1 a0_2 a0_3 a0_4 a0_5 a0_6 a0_7 a0_8 a0_9 a1_0 a1_1 a1_2 a1_3 a1_4 a1_5 a1_6 a1_7 a1_8 a1_9).fin.cn3 (prS a0_0 a0_1 a0_2 a0_3 a0_4 a0_5 a0_6 a0_7 a0_8 a0_9 a1_0 a1_1 a1_2 a1_3 a1_4 a1_5 a1_6 a1_7 a1_8 a1_9).fin.cs3 (fM a0_8 a0_9 a1_8 a1_9).1 (fM a0_8 a0_9 a1_8 a1_9).2).2.2.2.1,.bool (fL (prS a0_0 a0_1 a0_2 a0_3 a0_4 a0_5 a0_6 a0_7 a0_8 a0_9 a1_0 a1_1 a1_2 a1_3 a1_4 a1_5 a1_6 a1_7 a1_8 a1_9).fin.cn0 (prS a0_0 a0_1 a0_2 a0_3 a0_4 a0_5 a0_6 a0_7 a0_8 a0_9 a1_0 a1_1 a1_2 a1_3 a1_4 a1_5 a1_6 a1_7 a1_8 a1_9).fin.cs0 (prS a0_0 a0_1 a0_2 a0_3 a0_4 a0_5 a0_6 a0_7 a0_8 a0_9 a1_0 a1_1 a1_2 a1_3 a1_4 a1_5 a1_6 a1_7 a1_8 a1_9).fin.cn1 (prS a0_0 a0_1 a0_2 a0_3 a0_4 a0_5 a0_6 a0_7 a0_8 a0_9 a1_0 a1_1 a1_2 a1_3 a1_4 a1_5 a1_6 a1_7 a1_8 a1_9).fin.cs1 (prS a0_0 a0_1 a0_2 a0_3 a0_4 a0_5 a0_6 a0_7 a0_8 a0_9 a1_0 a1_1 a1_2 a1_3 a1_4 a1_5 a1_6 a1_7 a1_8 a1_9).fin.cn2 (prS a0_0 a0_1 a0_2 a0_3 a0_4 a0_5 a0_6 a0_7 a0_8 a0_9 a1_0 a1_1 a1_2 a1_3 a1_4 a1_5 a1_6 a1_7 a1_8 a1_9).fin.cs2 (prS a0_0 a0_1 a0_2 a0_3 a0_4 a0_5 a0_6 a0_7 a0_8 a0_9 a1_0 a1_1 a1_2 a1_3 a1_4 a1_5 a1_6 a1_7 a1_8 a1_9).fin.cn3 (prS a0_0 a0_1 a0_2 a0_3 a0_4 a0_5 a0_6 a0_7 a0_8 a0_9 a1_0 a1_1 a1_2 a1_3 a1_4 a1_5 a1_6 a1_7 a1_8 a1_9).fin.cs3 (fM a0_8 a0_9 a1_8 a1_9).1 (fM a0_8 a0_9 a1_8 a1_9).2).2.2.2.2.1,.string (fL (prS a0_0 a0_1 a0_2 a0_3 a0_4 a0_5 a0_6 a0_7 a0_8 a0_9 a1_0 a1_1 a1_2 a1_3 a1_4 a1_5 a1_6 a1_7 a1_8 a1_9).fin.cn0 (prS a0_0 a0_1 a0_2 a0_3 a0_4 a0_5 a0_6 a0_7 a0_8 a0_9 a1_0 a1_1 a1_2 a1_3 a1_4 a1_5 a1_6 a1_7 a1_8 a1_9).fin.cs0 (prS a0_0 a0_1 a0_2 a0_3 a0_4 a0_5 a0_6 a0_7 a0_8 a0_9 a1_0 a1_1 a1_2 a1_3 a1_4 a1_5 a1_6 a1_7 a1_8 a1_9).fin.cn1 (prS a0_0 a0_1 a0_2 a0_3 a0_4 a0_5 a0_6 a0_7 a0_8 a0_9 a1_0 a1_1 a1_2 a1_3 a1_4 a1_5 a1_6 a1_7 a1_8 a1_9).fin.cs1 (prS a0_0 a0_1 a0_2 a0_3 a0_4 a0_5 a0_6 a0_7 a0_8 a0_9 a1_0 a1_1 a1_2 a1_3 a1_4 a1_5 a1_6 a1_7 a1_8 a1_9).fin.cn2 (prS a0_0 a0_1 a0_2 a0_3 a0_4 a0_5 a0_6 a0_7 a0_8 a0_9 a1_0 a1_1 a1_2 a1_3 a1_4 a1_5 a1_6 a1_7 a1_8 a1_9).fin.cs2 (prS a0_0 a0_1 a0_2 a0_3 a0_4 a0_5 a0_6 a0_7 a0_8 a0_9 a1_0 a1_1 a1_2 a1_3 a1_4 a1_5 a1_6 a1_7 a1_8 a1_9).fin.cn3 (prS a0_0 a0_1 a0_2 a0_3 a0_4 a0_5 a0_6 a0_7 a0_8 a0_9 a1_0 a1_1 a1_2 a1_3 a1_4 a1_5 a1_6 a1_7 a1_8 a1_9).fin.cs3 (fM a0_8 a0_9 a1_8 a1_9).1 (fM a0_8 a0_9 a1_8 a1_9).2).2.2.2.2.2.1,.bool (fL (prS a0_0 a0_1 a0_2 a0_3 a0_4 a0_5 a0_6 a0_7 a0_8 a0_9 a1_0 a1_1 a1_2 a1_3 a1_4 a1_5 a1_6 a1_7 a1_8 a1_9).fin.cn0 (prS a0_0 a0_1 a0_2 a0_3 a0_4 a0_5 a0_6 a0_7 a0_8 a0_9 a1_0 a1_1 a1_2 a1_3 a1_4 a1_5 a1_6 a1_7 a1_8 a1_9).fin.cs0 (prS a0_0 a0_1 a0_2 a0_3 a0_4 a0_5 a0_6 a0_7 a0_8 a0_9 a1_0 a1_1 a1_2 a1_3 a1_4 a1_5 a1_6 a1_7 a1_8 a1_9).fin.cn1 (prS a0_0 a0_1 a0_2 a0_3 a0_4 a0_5 a0_6 a0_7 a0_8 a0_9 a1_0 a1_1 a1_2 a1_3 a1_4 a1_5 a1_6 a1_7 a1_8 a1_9).fin.cs1 (prS a0_0 a0_1 a0_2 a0_3 a0_4 a0_5 a0_6 a0_7 a0_8 a0_9 a1_0 a1_1 a1_2 a1_3 a1_4 a1_5 a1_6 a1_7 a1_8 a1_9).fin.cn2 (prS a0_0 a0_1 a0_2 a0_3 a0_4 a0_5 a0_6 a0_7 a0_8 a0_9 a1_0 a1_1 a1_2 a1_3 a1_4 a1_5 a1_6 a1_7 a1_8 a1_9).fin.cs2 (prS a0_0 a0_1 a0_2 a0_3 a0_4 a0_5 a0_6 a0_7 a0_8 a0_9 a1_0 a1_1 a1_2 a1_3 a1_4 a1_5 a1_6 a1_7 a1_8 a1_9).fin.cn3 (prS a0_0 a0_1 a0_2 a0_3 a0_4 a0_5 a0_6 a0_7 a0_8 a0_9 a1_0 a1_1 a1_2 a1_3 a1_4 a1_5 a1_6 a1_7 a1_8 a1_9).fin.cs3 (fM a0_8 a0_9 a1_8 a1_9).1 (fM a0_8 a0_9 a1_8 a1_9).2).2.2.2.2.2.2.1,.string (fL (prS a0_0 a0_1 a0_2 a0_3 a0_4 a0_5 a0_6 a0_7 a0_8 a0_9 a1_0 a1_1 a1_2 a1_3 a1_4 a1_5 a1_6 a1_7 a1_8 a1_9).fin.cn0 (prS a0_0 a0_1 a0_2 a0_3 a0_4 a0_5 a0_6 a0_7 a0_8 a0_9 a1_0 a1_1 a1_2 a1_3 a1_4 a1_5 a1_6 a1_7 a1_8 a1_9).fin.cs0 (prS a0_0 a0_1 a0_2 a0_3 a0_4 a0_5 a0_6 a0_7 a0_8 a0_9 a1_0 a1_1 a1_2 a1_3 a1_4 a1_5 a1_6 a1_7 a1_8 a1_9).fin.cn1 (prS a0_0 a0_1 a0_2 a0_3 a0_4 a0_5 a0_6 a0_7 a0_8 a0_9 a1_0 a1_1 a1_2 a1_3 a1_4 a1_5 a1_6 a1_7 a1_8 a1_9).fin.cs1 (prS a0_0 a0_1 a0_2 a0_3 a0_4 a0_5 a0_6 a0_7 a0_8 a0_9 a1_0 a1_1 a1_2 a1_3 a1_4 a1_5 a1_6 a1_7 a1_8 a1_9).fin.cn2 (prS a0_0 a0_1 a0_2 a0_3 a0_4 a0_5 a0_6 a0_7 a0_8 a0_9 a1_0 a1_1 a1_2 a1_3 a1_4 a1_5 a1_6 a1_7 a1_8 a1_9).fin.cs2 (prS a0_0 a0_1 a0_2 a0_3 a0_4 a0_5 a0_6 a0_7 a0_8 a0_9 a1_0 a1_1 a1_2 a1_3 a1_4 a1_5 a1_6 a1_7 a1_8 a1_9).fin.cn3 (prS a0_0 a0_1 a0_2 a0_3 a0_4 a0_5 a0_6 a0_7 a0_8 a0_9 a1_0 a1_1 a1_2 a1_3 a1_4 a1_5 a1_6 a1_7 a1_8 a1_9).fin.cs3 (fM a0_8 a0_9 a1_8 a1_9).1 (fM a0_8 a0_9 a1_8 a1_9).2).2.2.2.2.2.2.2.1,.bool (fL (prS a0_0 a0_1 a0_2 a0_3 a0_4 a0_5 a0_6 a0_7 a0_8 a0_9 a1_0 a1_1 a1_2 a1_3 a1_4 a1_5 a1_6 a1_7 a1_8 a1_9).fin.cn0 (prS a0_0 a0_1 a0_2 a0_3 a0_4 a0_5 a0_6 a0_7 a0_8 a0_9 a1_0 a1_1 a1_2 a1_3 a1_4 a1_5 a1_6 a1_7 a1_8 a1_9).fin.cs0 (prS a0_0 a0_1 a0_2 a0_3 a0_4 a0_5 a0_6 a0_7 a0_8 a0_9 a1_0 a1_1 a1_2 a1_3 a1_4 a1_5 a1_6 a1_7 a1_8 a1_9).fin.cn1 (prS a0_0 a0_1 a0_2 a0_3 a0_4 a0_5 a0_6 a0_7 a0_8 a0_9 a1_0 a1_1 a1_2 a1_3 a1_4 a1_5 a1_6 a1_7 a1_8 a1_9).fin.cs1 (prS a0_0 a0_1 a0_2 a0_3 a0_4 a0_5 a0_6 a0_7 a0_8 a0_9 a1_0 a1_1 a1_2 a1_3 a1_4 a1_5 a1_6 a1_7 a1_8 a1_9).fin.cn2 (prS a0_0 a0_1 a0_2 a0_3 a0_4 a0_5 a0_6 a0_7 a0_8 a0_9 a1_0 a1_1 a1_2 a1_3 a1_4 a1_5 a1_6 a1_7 a1_8 a1_9).fin.cs2 (prS a0_0 a0_1 a0_2 a0_3 a0_4 a0_5 a0_6 a0_7 a0_8 a0_9 a1_0 a1_1 a1_2 a1_3 a1_4 a1_5 a1_6 a1_7 a1_8 a1_9).fin.cn3 (prS a0_0 a0_1 a0_2 a0_3 a0_4 a0_5 a0_6 a0_7 a0_8 a0_9 a1_0 a1_1 a1_2 a1_3 a1_4 a1_5 a1_6 a1_7 a1_8 a1_9).fin.cs3 (fM a0_8 a0_9 a1_8 a1_9).1 (fM a0_8 a0_9 a1_8 a1_9).2).2.2.2.2.2.2.2.2.1,.string (fL (prS a0_0 a0_1 a0_2 a0_3 a0_4 a0_5 a0_6 a0_7 a0_8 a0_9 a1_0 a1_1 a1_2 a1_3 a1_4 a1_5 a1_6 a1_7 a1_8 a1_9).fin.cn0 (prS a0_0 a0_1 a0_2 a0_3 a0_4 a0_5 a0_6 a0_7 a0_8 a0_9 a1_0 a1_1 a1_2 a1_3 a1_4 a1_5 a1_6 a1_7 a1_8 a1_9).fin.cs0 (prS a0_0 a0_1 a0_2 a0_3 a0_4 a0_5 a0_6 a0_7 a0_8 a0_9 a1_0 a1_1 a1_2 a1_3 a1_4 a1_5 a1_6 a1_7 a1_8 a1_9).fin.cn1 (prS a0_0 a0_1 a0_2 a0_3 a0_4 a0_5 a0_6 a0_7 a0_8 a0_9 a1_0 a1_1 a1_2 a1_3 a1_4 a1_5 a1_6 a1_7 a1_8 a1_9).fin.cs1 (prS a0_0 a0_1 a0_2 a0_3 a0_4 a0_5 a0_6 a0_7 a0_8 a0_9 a1_0 a1_1 a1_2 a1_3 a1_4 a1_5 a1_6 a1_7 a1_8 a1_9).fin.cn2 (prS a0_0 a0_1 a0_2 a0_3 a0_4 a0_5 a0_6 a0_7 a0_8 a0_9 a1_0 a1_1 a1_2 a1_3 a1_4 a1_5 a1_6 a1_7 a1_8 a1_9).fin.cs2 (prS a0_0 a0_1 a0_2 a0_3 a0_4 a0_5 a0_6 a0_7 a0_8 a0_9 a1_0 a1_1 a1_2 a1_3 a1_4 a1_5 a1_6 a1_7 a1_8 a1_9).fin.cn3 (prS a0_0 a0_1 a0_2 a0_3 a0_4 a0_5 a0_6 a0_7 a0_8 a0_9 a1_0 a1_1 a1_2 a1_3 a1_4 a1_5 a1_6 a1_7 a1_8 a1_9).fin.cs3 (fM a0_8 a0_9 a1_8 a1_9).1 (fM a0_8 a0_9 a1_8 a1_9).2).2.2.2.2.2.2.2.2.2]⟩,[]) else none else none else none:=by kernel_rfl
def field_product (a0_0:Bool) (a0_1:ByteArray) (a0_2:Bool) (a0_3:ByteArray) (a0_4:Bool) (a0_5:ByteArray) (a0_6:Bool) (a0_7:ByteArray) (a0_8:Bool) (a0_9:ByteArray) (a1_0:Bool) (a1_1:ByteArray) (a1_2:Bool) (a1_3:ByteArray) (a1_4:Bool) (a1_5:ByteArray) (a1_6:Bool) (a1_7:ByteArray) (a1_8:Bool) (a1_9:ByteArray):T10:=field_lowest (prS a0_0 a0_1 a0_2 a0_3 a0_4 a0_5 a0_6 a0_7 a0_8 a0_9 a1_0 a1_1 a1_2 a1_3 a1_4 a1_5 a1_6 a1_7 a1_8 a1_9).fin.cn0 (prS a0_0 a0_1 a0_2 a0_3 a0_4 a0_5 a0_6 a0_7 a0_8 a0_9 a1_0 a1_1 a1_2 a1_3 a1_4 a1_5 a1_6 a1_7 a1_8 a1_9).fin.cs0 (prS a0_0 a0_1 a0_2 a0_3 a0_4 a0_5 a0_6 a0_7 a0_8 a0_9 a1_0 a1_1 a1_2 a1_3 a1_4 a1_5 a1_6 a1_7 a1_8 a1_9).fin.cn1 (prS a0_0 a0_1 a0_2 a0_3 a0_4 a0_5 a0_6 a0_7 a0_8 a0_9 a1_0 a1_1 a1_2 a1_3 a1_4 a1_5 a1_6 a1_7 a1_8 a1_9).fin.cs1 (prS a0_0 a0_1 a0_2 a0_3 a0_4 a0_5 a0_6 a0_7 a0_8 a0_9 a1_0 a1_1 a1_2 a1_3 a1_4 a1_5 a1_6 a1_7 a1_8 a1_9).fin.cn2 (prS a0_0 a0_1 a0_2 a0_3 a0_4 a0_5 a0_6 a0_7 a0_8 a0_9 a1_0 a1_1 a1_2 a1_3 a1_4 a1_5 a1_6 a1_7 a1_8 a1_9).fin.cs2 (prS a0_0 a0_1 a0_2 a0_3 a0_4 a0_5 a0_6 a0_7 a0_8 a0_9 a1_0 a1_1 a1_2 a1_3 a1_4 a1_5 a1_6 a1_7 a1_8 a1_9).fin.cn3 (prS a0_0 a0_1 a0_2 a0_3 a0_4 a0_5 a0_6 a0_7 a0_8 a0_9 a1_0 a1_1 a1_2 a1_3 a1_4 a1_5 a1_6 a1_7 a1_8 a1_9).fin.cs3 (bigint_Mul a0_8 a0_9 a1_8 a1_9).1 (bigint_Mul a0_8 a0_9 a1_8 a1_9).2
def field_product.pre (a0_0:Bool) (a0_1:ByteArray) (a0_2:Bool) (a0_3:ByteArray) (a0_4:Bool) (a0_5:ByteArray) (a0_6:Bool) (a0_7:ByteArray) (a0_8:Bool) (a0_9:ByteArray) (a1_0:Bool) (a1_1:ByteArray) (a1_2:Bool) (a1_3:ByteArray) (a1_4:Bool) (a1_5:ByteArray) (a1_6:Bool) (a1_7:ByteArray) (a1_8:Bool) (a1_9:ByteArray):Bool:=pro.need (prS a0_0 a0_1 a0_2 a0_3 a0_4 a0_5 a0_6 a0_7 a0_8 a0_9 a1_0 a1_1 a1_2 a1_3 a1_4 a1_5 a1_6 a1_7 a1_8 a1_9)&&(bigint_Mul.pre a0_8 a0_9 a1_8 a1_9&&field_lowest.pre (prS a0_0 a0_1 a0_2 a0_3 a0_4 a0_5 a0_6 a0_7 a0_8 a0_9 a1_0 a1_1 a1_2 a1_3 a1_4 a1_5 a1_6 a1_7 a1_8 a1_9).fin.cn0 (prS a0_0 a0_1 a0_2 a0_3 a0_4 a0_5 a0_6 a0_7 a0_8 a0_9 a1_0 a1_1 a1_2 a1_3 a1_4 a1_5 a1_6 a1_7 a1_8 a1_9).fin.cs0 (prS a0_0 a0_1 a0_2 a0_3 a0_4 a0_5 a0_6 a0_7 a0_8 a0_9 a1_0 a1_1 a1_2 a1_3 a1_4 a1_5 a1_6 a1_7 a1_8 a1_9).fin.cn1 (prS a0_0 a0_1 a0_2 a0_3 a0_4 a0_5 a0_6 a0_7 a0_8 a0_9 a1_0 a1_1 a1_2 a1_3 a1_4 a1_5 a1_6 a1_7 a1_8 a1_9).fin.cs1 (prS a0_0 a0_1 a0_2 a0_3 a0_4 a0_5 a0_6 a0_7 a0_8 a0_9 a1_0 a1_1 a1_2 a1_3 a1_4 a1_5 a1_6 a1_7 a1_8 a1_9).fin.cn2 (prS a0_0 a0_1 a0_2 a0_3 a0_4 a0_5 a0_6 a0_7 a0_8 a0_9 a1_0 a1_1 a1_2 a1_3 a1_4 a1_5 a1_6 a1_7 a1_8 a1_9).fin.cs2 (prS a0_0 a0_1 a0_2 a0_3 a0_4 a0_5 a0_6 a0_7 a0_8 a0_9 a1_0 a1_1 a1_2 a1_3 a1_4 a1_5 a1_6 a1_7 a1_8 a1_9).fin.cn3 (prS a0_0 a0_1 a0_2 a0_3 a0_4 a0_5 a0_6 a0_7 a0_8 a0_9 a1_0 a1_1 a1_2 a1_3 a1_4 a1_5 a1_6 a1_7 a1_8 a1_9).fin.cs3 (bigint_Mul a0_8 a0_9 a1_8 a1_9).1 (bigint_Mul a0_8 a0_9 a1_8 a1_9).2)
theorem field_product.ok:SOK Tryz.prog 161 (field_product.sp field_product field_product.pre):=by
  refine sok_of (E:=⟨[(163,bigint_Mul.sp bigint_Mul bigint_Mul.pre),(164,field_lowest.sp field_lowest field_lowest.pre)],[],[]⟩) (L:=[(0,pro.t)]) ⟨specs_cons bigint_Mul.ok (specs_cons field_lowest.ok specs_nil),inl_nil,mixed_ok,lps_nil⟩ 60 Tryz.func161 (by decide) rfl (one_loop rfl rfl pro.lok) fun vs bl v bl' h=> ?_
  unfold field_product.sp at h
  split at h
  · rename_i a0_0 a0_1 a0_2 a0_3 a0_4 a0_5 a0_6 a0_7 a0_8 a0_9 a1_0 a1_1 a1_2 a1_3 a1_4 a1_5 a1_6 a1_7 a1_8 a1_9
    simp only [Option.some.injEq,Prod.mk.injEq] at h
    obtain ⟨hp,rfl,rfl⟩:=h
    unfold field_product.pre at hp
    simp only [Bool.and_eq_true] at hp
    refine ⟨(product.run bigint_Mul bigint_Mul.pre field_lowest field_lowest.pre a0_0 a0_1 a0_2 a0_3 a0_4 a0_5 a0_6 a0_7 a0_8 a0_9 a1_0 a1_1 a1_2 a1_3 a1_4 a1_5 a1_6 a1_7 a1_8 a1_9).trans (((ct hp.1).trans (ct hp.2.1)).trans (ct hp.2.2)),by simp [okV,Nat.blt],clo_spec 8 _ (by kernel_rfl),told_blk (by kernel_rfl)⟩
  · cases h
def qprod (x y:Q):Q:=⟨0+1*(x.c0*y.c0)+2*(x.c1*y.c1)+3*(x.c2*y.c2)+6*(x.c3*y.c3),0+1*(x.c0*y.c1)+1*(x.c1*y.c0)+3*(x.c2*y.c3)+3*(x.c3*y.c2),0+1*(x.c0*y.c2)+2*(x.c1*y.c3)+1*(x.c2*y.c0)+2*(x.c3*y.c1),0+1*(x.c0*y.c3)+1*(x.c1*y.c2)+1*(x.c2*y.c1)+1*(x.c3*y.c0),x.d*y.d⟩
theorem part_bd {j k:Nat} {c q a b:Int} {m:Nat} (hc:Bd m c) (hq:Few6 q) (ha:Bd j a) (hb:Bd k b) (hm:1+(j+k)≤m):Bd (m+1) (c+q*(a*b)):=hc.add (((few_bd hq).mul (ha.mul hb)).mono hm)
theorem qprod_bd {j k:Nat} {x y:Q} (hx:x.Bd j) (hy:y.Bd k):(qprod x y).Bd (j+k+5):=by
  have f1:Few6 1:= .inl rfl
  have f2:Few6 2:= .inr (.inl rfl)
  have f3:Few6 3:= .inr (.inr (.inl rfl))
  have f6:Few6 6:= .inr (.inr (.inr rfl))
  have z:Bd (1+(j+k)) 0:=Bd.zero _
  have four:∀ {q0 q1 q2 q3 a0 b0 a1 b1 a2 b2 a3 b3:Int},Few6 q0→Few6 q1→Few6 q2→Few6 q3→Bd j a0→Bd k b0→Bd j a1→Bd k b1→Bd j a2→Bd k b2→Bd j a3→Bd k b3→Bd (j+k+5) (0+q0*(a0*b0)+q1*(a1*b1)+q2*(a2*b2)+q3*(a3*b3)):=fun h0 h1 h2 h3 a0 b0 a1 b1 a2 b2 a3 b3=>
    (part_bd (part_bd (part_bd (part_bd z h0 a0 b0 (by omega)) h1 a1 b1 (by omega)) h2 a2 b2 (by omega)) h3 a3 b3 (by omega)).mono (by omega)
  exact ⟨four f1 f2 f3 f6 hx.c0 hy.c0 hx.c1 hy.c1 hx.c2 hy.c2 hx.c3 hy.c3,four f1 f1 f3 f3 hx.c0 hy.c1 hx.c1 hy.c0 hx.c2 hy.c3 hx.c3 hy.c2,four f1 f2 f1 f2 hx.c0 hy.c2 hx.c1 hy.c3 hx.c2 hy.c0 hx.c3 hy.c1,four f1 f1 f1 f1 hx.c0 hy.c3 hx.c1 hy.c2 hx.c2 hy.c1 hx.c3 hy.c0,(hx.d.mul hy.d).mono (by omega)⟩
section
variable {j k:Nat} {x y:Q}
theorem prS_fin:(prS (dI x.c0).1 (dI x.c0).2 (dI x.c1).1 (dI x.c1).2 (dI x.c2).1 (dI x.c2).2 (dI x.c3).1 (dI x.c3).2 (dI x.d).1 (dI x.d).2 (dI y.c0).1 (dI y.c0).2 (dI y.c1).1 (dI y.c1).2 (dI y.c2).1 (dI y.c2).2 (dI y.c3).1 (dI y.c3).2 (dI y.d).1 (dI y.d).2).fin.cn0=(dI (qprod x y).c0).1∧(prS (dI x.c0).1 (dI x.c0).2 (dI x.c1).1 (dI x.c1).2 (dI x.c2).1 (dI x.c2).2 (dI x.c3).1 (dI x.c3).2 (dI x.d).1 (dI x.d).2 (dI y.c0).1 (dI y.c0).2 (dI y.c1).1 (dI y.c1).2 (dI y.c2).1 (dI y.c2).2 (dI y.c3).1 (dI y.c3).2 (dI y.d).1 (dI y.d).2).fin.cs0=(dI (qprod x y).c0).2∧(prS (dI x.c0).1 (dI x.c0).2 (dI x.c1).1 (dI x.c1).2 (dI x.c2).1 (dI x.c2).2 (dI x.c3).1 (dI x.c3).2 (dI x.d).1 (dI x.d).2 (dI y.c0).1 (dI y.c0).2 (dI y.c1).1 (dI y.c1).2 (dI y.c2).1 (dI y.c2).2 (dI y.c3).1 (dI y.c3).2 (dI y.d).1 (dI y.d).2).fin.cn1=(dI (qprod x y).c1).1∧(prS (dI x.c0).1 (dI x.c0).2 (dI x.c1).1 (dI x.c1).2 (dI x.c2).1 (dI x.c2).2 (dI x.c3).1 (dI x.c3).2 (dI x.d).1 (dI x.d).2 (dI y.c0).1 (dI y.c0).2 (dI y.c1).1 (dI y.c1).2 (dI y.c2).1 (dI y.c2).2 (dI y.c3).1 (dI y.c3).2 (dI y.d).1 (dI y.d).2).fin.cs1=(dI (qprod x y).c1).2∧(prS (dI x.c0).1 (dI x.c0).2 (dI x.c1).1 (dI x.c1).2 (dI x.c2).1 (dI x.c2).2 (dI x.c3).1 (dI x.c3).2 (dI x.d).1 (dI x.d).2 (dI y.c0).1 (dI y.c0).2 (dI y.c1).1 (dI y.c1).2 (dI y.c2).1 (dI y.c2).2 (dI y.c3).1 (dI y.c3).2 (dI y.d).1 (dI y.d).2).fin.cn2=(dI (qprod x y).c2).1∧(prS (dI x.c0).1 (dI x.c0).2 (dI x.c1).1 (dI x.c1).2 (dI x.c2).1 (dI x.c2).2 (dI x.c3).1 (dI x.c3).2 (dI x.d).1 (dI x.d).2 (dI y.c0).1 (dI y.c0).2 (dI y.c1).1 (dI y.c1).2 (dI y.c2).1 (dI y.c2).2 (dI y.c3).1 (dI y.c3).2 (dI y.d).1 (dI y.d).2).fin.cs2=(dI (qprod x y).c2).2∧(prS (dI x.c0).1 (dI x.c0).2 (dI x.c1).1 (dI x.c1).2 (dI x.c2).1 (dI x.c2).2 (dI x.c3).1 (dI x.c3).2 (dI x.d).1 (dI x.d).2 (dI y.c0).1 (dI y.c0).2 (dI y.c1).1 (dI y.c1).2 (dI y.c2).1 (dI y.c2).2 (dI y.c3).1 (dI y.c3).2 (dI y.d).1 (dI y.d).2).fin.cn3=(dI (qprod x y).c3).1∧(prS (dI x.c0).1 (dI x.c0).2 (dI x.c1).1 (dI x.c1).2 (dI x.c2).1 (dI x.c2).2 (dI x.c3).1 (dI x.c3).2 (dI x.d).1 (dI x.d).2 (dI y.c0).1 (dI y.c0).2 (dI y.c1).1 (dI y.c1).2 (dI y.c2).1 (dI y.c2).2 (dI y.c3).1 (dI y.c3).2 (dI y.d).1 (dI y.d).2).fin.cs3=(dI (qprod x y).c3).2:=by
  have h0:vl false (⟨#[]⟩:ByteArray)=0:=rfl
  simp only [PrS.fin,PrS.wc,prS,vl_dI,h0,qprod,and_self]
theorem field_product.ps (hx:x.Bd j) (hy:y.Bd k) (hj:j≤PRM) (hk:k≤PRM) (hd:x.d*y.d≠0):field_product.pre (dI x.c0).1 (dI x.c0).2 (dI x.c1).1 (dI x.c1).2 (dI x.c2).1 (dI x.c2).2 (dI x.c3).1 (dI x.c3).2 (dI x.d).1 (dI x.d).2 (dI y.c0).1 (dI y.c0).2 (dI y.c1).1 (dI y.c1).2 (dI y.c2).1 (dI y.c2).2 (dI y.c3).1 (dI y.c3).2 (dI y.d).1 (dI y.d).2=true:=by
  obtain ⟨e0,e1,e2,e3,e4,e5,e6,e7⟩:=prS_fin (x:=x) (y:=y)
  have hq:=qprod_bd hx hy
  unfold field_product.pre
  rw [e0,e1,e2,e3,e4,e5,e6,e7,bigint_Mul_dI,mul_pre hx.d hy.d (by unfold LIM; unfold PRM at hj; omega) (by unfold LIM; unfold PRM at hk; omega)]
  have hl:=field_lowest.ps (q:=qprod x y) hq (by unfold LIM; unfold PRM at hj hk; omega) hd
  have hl2:field_lowest.pre (dI (qprod x y).c0).1 (dI (qprod x y).c0).2 (dI (qprod x y).c1).1 (dI (qprod x y).c1).2 (dI (qprod x y).c2).1 (dI (qprod x y).c2).2 (dI (qprod x y).c3).1 (dI (qprod x y).c3).2 (dI (x.d*y.d)).1 (dI (x.d*y.d)).2=true:=hl
  rw [hl2,Bool.and_true,Bool.and_true]
  have z:∀k,szB k false (⟨#[]⟩:ByteArray)=true:=fun k=>by simp [szB,vld,vldL]; exact Nat.zero_le _
  simp only [pro.need,prS,Bool.and_eq_true,z]
  exact ⟨⟨⟨⟨⟨⟨⟨⟨⟨⟨⟨szB_dI (hx.c0.mono hj),szB_dI (hx.c1.mono hj)⟩,szB_dI (hx.c2.mono hj)⟩,szB_dI (hx.c3.mono hj)⟩,szB_dI (hy.c0.mono hk)⟩,szB_dI (hy.c1.mono hk)⟩,szB_dI (hy.c2.mono hk)⟩,szB_dI (hy.c3.mono hk)⟩,trivial⟩,trivial⟩,trivial⟩,trivial⟩
theorem field_product.es (hx:x.Bd j) (hy:y.Bd k) (hj:j≤PRM) (hk:k≤PRM) (hd:x.d*y.d≠0):field_product (dI x.c0).1 (dI x.c0).2 (dI x.c1).1 (dI x.c1).2 (dI x.c2).1 (dI x.c2).2 (dI x.c3).1 (dI x.c3).2 (dI x.d).1 (dI x.d).2 (dI y.c0).1 (dI y.c0).2 (dI y.c1).1 (dI y.c1).2 (dI y.c2).1 (dI y.c2).2 (dI y.c3).1 (dI y.c3).2 (dI y.d).1 (dI y.d).2=C5 (low (qprod x y)):=by
  obtain ⟨e0,e1,e2,e3,e4,e5,e6,e7⟩:=prS_fin (x:=x) (y:=y)
  unfold field_product
  rw [e0,e1,e2,e3,e4,e5,e6,e7,bigint_Mul_dI]
  exact field_lowest.es (q:=qprod x y) (qprod_bd hx hy) (by unfold LIM; unfold PRM at hj hk; omega) hd
end
end Go.Proofs.YtpejalpgficopaaGreatDoor.G
end
section
namespace Go.Proofs.YtpejalpgficopaaGreatDoor.G
open Go Go.Proofs RX
set_option linter.unusedVariables false
set_option linter.unusedSimpArgs false
def qneg (x:Q):Q:=⟨-x.c0,-x.c1,-x.c2,-x.c3,x.d⟩
def qsum (x y:Q):Q:=⟨x.c0*y.d+y.c0*x.d,x.c1*y.d+y.c1*x.d,x.c2*y.d+y.c2*x.d,x.c3*y.d+y.c3*x.d,x.d*y.d⟩
def qadd (x y:Q):Q:=low (qsum x y)
def qsub (x y:Q):Q:=qadd x (qneg y)
def qmul (x y:Q):Q:=low (qprod x y)
def qof (n:Int):Q:=⟨n,0,0,0,1⟩
theorem Q.ok_d {q:Q} (h:q.ok=true):0<q.d∧q.g=1:=by simpa [Q.ok] using h
theorem qneg_g (x:Q):(qneg x).g=x.g:=by
  show gg (-x.c0) (-x.c1) (-x.c2) (-x.c3) x.d=gg x.c0 x.c1 x.c2 x.c3 x.d
  unfold gg
  simp only [Int.gcd_neg]
theorem qneg_ok (x:Q):(qneg x).ok=x.ok:=by
  unfold Q.ok
  rw [qneg_g]
  rfl
theorem qneg_bd {k:Nat} {x:Q} (h:x.Bd k):(qneg x).Bd k:=⟨h.c0.neg,h.c1.neg,h.c2.neg,h.c3.neg,h.d⟩
theorem qsum_bd {j k:Nat} {x y:Q} (hx:x.Bd j) (hy:y.Bd k):(qsum x y).Bd (j+k+1):=
  ⟨(hx.c0.mul hy.d).add ((hy.c0.mul hx.d).mono (by omega)),(hx.c1.mul hy.d).add ((hy.c1.mul hx.d).mono (by omega)),(hx.c2.mul hy.d).add ((hy.c2.mul hx.d).mono (by omega)),(hx.c3.mul hy.d).add ((hy.c3.mul hx.d).mono (by omega)),(hx.d.mul hy.d).mono (by omega)⟩
theorem dd_ne {x y:Q} (hx:x.ok=true) (hy:y.ok=true):x.d*y.d≠0:=by
  have h1:=(Q.ok_d hx).1
  have h2:=(Q.ok_d hy).1
  exact Int.mul_ne_zero (by omega) (by omega)
theorem qadd_ok {x y:Q} (hx:x.ok=true) (hy:y.ok=true):(qadd x y).ok=true:=low_ok (q:=qsum x y) (dd_ne hx hy)
theorem qmul_ok {x y:Q} (hx:x.ok=true) (hy:y.ok=true):(qmul x y).ok=true:=low_ok (q:=qprod x y) (dd_ne hx hy)
theorem qadd_bd {j k:Nat} {x y:Q} (hx:x.Bd j) (hy:y.Bd k) (ox:x.ok=true) (oy:y.ok=true):(qadd x y).Bd (j+k+1):=low_bd (qsum_bd hx hy) (dd_ne ox oy)
theorem qmul_bd {j k:Nat} {x y:Q} (hx:x.Bd j) (hy:y.Bd k) (ox:x.ok=true) (oy:y.ok=true):(qmul x y).Bd (j+k+5):=low_bd (qprod_bd hx hy) (dd_ne ox oy)
theorem C5_zero:C5 Q.zero=(false,(⟨#[]⟩:ByteArray),false,⟨#[]⟩,false,⟨#[]⟩,false,⟨#[]⟩,false,⟨#[]⟩):=by simp only [C5,Q.zero,dI_zero]
def mix (a b s:Int):Int:=if a=b∨b=0 then a else if a=0 then b else a*s
def sg2 (a b:Int):Int:=mix (sgn a) (sgn b) (sgn (a*a-2*(b*b)))
def sgz (c0 c1 c2 c3:Int):Int:=
  let p:=sg2 c0 c1; let q:=sg2 c2 c3
  if p=q∨q=0∨p=0 then mix p q 0 else
  mix p q (sg2 (1*(c0*c0)+2*(c1*c1)-(3*(c2*c2)+6*(c3*c3))) (2*(c0*c1)-6*(c2*c3)))
def Q.sg (x:Q):Int:=sgz x.c0 x.c1 x.c2 x.c3
theorem sgn_cases (z:Int):sgn z= -1∨sgn z=0∨sgn z=1:=by unfold sgn; split; exact .inl rfl; split; exact .inr (.inl rfl); exact .inr (.inr rfl)
theorem mix_cases {a b s:Int} (ha:a= -1∨a=0∨a=1) (hb:b= -1∨b=0∨b=1) (hs:s= -1∨s=0∨s=1):mix a b s= -1∨mix a b s=0∨mix a b s=1:=by
  rcases ha with rfl|rfl|rfl<;>rcases hb with rfl|rfl|rfl<;>rcases hs with rfl|rfl|rfl<;>decide
theorem sg2_cases (a b:Int):sg2 a b= -1∨sg2 a b=0∨sg2 a b=1:=mix_cases (sgn_cases _) (sgn_cases _) (sgn_cases _)
theorem zero_ok:Q.zero.ok=false:=rfl
theorem zero_bd (k:Nat):Q.zero.Bd k:=⟨Bd.zero k,Bd.zero k,Bd.zero k,Bd.zero k,Bd.zero k⟩
def cj2 (x:Q):Q:=⟨x.c0,x.c1,-x.c2,-x.c3,x.d⟩
def cj1 (x:Q):Q:=⟨x.c0,-x.c1,x.c2,-x.c3,x.d⟩
theorem cj2_g (x:Q):(cj2 x).g=x.g:=by
  show gg x.c0 x.c1 (-x.c2) (-x.c3) x.d=gg x.c0 x.c1 x.c2 x.c3 x.d
  unfold gg
  simp only [Int.gcd_neg]
theorem cj1_g (x:Q):(cj1 x).g=x.g:=by
  show gg x.c0 (-x.c1) x.c2 (-x.c3) x.d=gg x.c0 x.c1 x.c2 x.c3 x.d
  unfold gg
  simp only [Int.gcd_neg]
theorem cj2_ok (x:Q):(cj2 x).ok=x.ok:=by unfold Q.ok; rw [cj2_g]; rfl
theorem cj1_ok (x:Q):(cj1 x).ok=x.ok:=by unfold Q.ok; rw [cj1_g]; rfl
theorem cj2_bd {k:Nat} {x:Q} (h:x.Bd k):(cj2 x).Bd k:=⟨h.c0,h.c1,h.c2.neg,h.c3.neg,h.d⟩
theorem cj1_bd {k:Nat} {x:Q} (h:x.Bd k):(cj1 x).Bd k:=⟨h.c0,h.c1.neg,h.c2,h.c3.neg,h.d⟩
def qtwo (y:Q):Q:=qmul y (cj2 y)
def qone (y:Q):Q:=qmul (qtwo y) (cj1 (qtwo y))
def qinv (y:Q):Q:=low ⟨(qone y).d,0,0,0,(qone y).c0⟩
def qdiv (x y:Q):Q:=qmul (qmul x (cj2 y)) (qmul (cj1 (qtwo y)) (qinv y))
theorem root2:∀(n:Nat) (a b:Int),a.natAbs+b.natAbs≤n→a*a=2*(b*b)→a=0∧b=0
  |0,a,b,h,_=>by omega
  | n + 1,a,b,h,e=>by
    have ha:a%2=0:=by
      have h1:(a*a)%2=0:=by rw [e]; omega
      rw [Int.mul_emod] at h1
      rcases Int.emod_two_eq a with h2|h2<;>rw [h2] at h1<;>omega
    obtain ⟨c,rfl⟩:=Int.dvd_of_emod_eq_zero ha
    have e2:b*b=2*(c*c):=by
      have:2*c*(2*c)=4*(c*c):=by grind
      omega
    by_cases hz:c=0∧b=0
    · obtain ⟨rfl,rfl⟩:=hz; exact ⟨rfl,rfl⟩
    · by_cases hc:c=0
      · subst hc
        have:b*b=0:=by omega
        exact ⟨rfl,(Int.mul_eq_zero.1 this).elim id id⟩
      · have:=root2 n b c (by omega) e2
        exact absurd this.2 hc
theorem sq_mod3 (a:Int):(a*a)%3=0∨(a*a)%3=1:=by
  rw [Int.mul_emod]
  have h0:=Int.emod_nonneg a (show (3:Int)≠0 by decide)
  have h1:=Int.emod_lt_of_pos a (show (0:Int)<3 by decide)
  have:a%3=0∨a%3=1∨a%3=2:=by omega
  rcases this with h|h|h<;>rw [h]<;>decide
theorem sq_mod3_zero {a:Int} (h:(a*a)%3=0):a%3=0:=by
  rw [Int.mul_emod] at h
  have h0:=Int.emod_nonneg a (show (3:Int)≠0 by decide)
  have h1:=Int.emod_lt_of_pos a (show (0:Int)<3 by decide)
  have:a%3=0∨a%3=1∨a%3=2:=by omega
  rcases this with h'|h'|h'<;>rw [h'] at h<;>omega
theorem mod3_both {a b:Int} (h:(a*a+2*(b*b))%3=0) (h':(a*b)%3=0):a%3=0∧b%3=0:=by
  have ha:=sq_mod3 a
  have hb:=sq_mod3 b
  have hab:((a*a)*(b*b))%3=0:=by
    have:(a*a)*(b*b)=(a*b)*(a*b):=by grind
    rw [this,Int.mul_emod,h']; rfl
  rw [Int.mul_emod] at hab
  rcases ha with ha|ha<;>rcases hb with hb|hb
  · exact ⟨sq_mod3_zero ha,sq_mod3_zero hb⟩
  · omega
  · omega
  · rw [ha,hb] at hab; omega
theorem root3:∀(n:Nat) (a b c d:Int),a.natAbs+b.natAbs+c.natAbs+d.natAbs≤n→a*a+2*(b*b)=3*(c*c)+6*(d*d)→a*b=3*(c*d)→a=0∧b=0∧c=0∧d=0
  |0,a,b,c,d,h,_,_=>by omega
  | n +1,a,b,c,d,h,e1,e2=>by
    have hab:=mod3_both (a:=a) (b:=b) (by omega) (by omega)
    obtain ⟨a',rfl⟩:=Int.dvd_of_emod_eq_zero hab.1
    obtain ⟨b',rfl⟩:=Int.dvd_of_emod_eq_zero hab.2
    have q1:3*a'*(3*a')=9*(a'*a'):=by grind
    have q2:3*b'*(3*b')=9*(b'*b'):=by grind
    have q3:3*a'*(3*b')=9*(a'*b'):=by grind
    have hcd:=mod3_both (a:=c) (b:=d) (by omega) (by omega)
    obtain ⟨c',rfl⟩:=Int.dvd_of_emod_eq_zero hcd.1
    obtain ⟨d',rfl⟩:=Int.dvd_of_emod_eq_zero hcd.2
    have q4:3*c'*(3*c')=9*(c'*c'):=by grind
    have q5:3*d'*(3*d')=9*(d'*d'):=by grind
    have q6:3*c'*(3*d')=9*(c'*d'):=by grind
    by_cases hz:a'=0∧b'=0∧c'=0∧d'=0
    · obtain ⟨rfl,rfl,rfl,rfl⟩:=hz; exact ⟨rfl,rfl,rfl,rfl⟩
    · have:=root3 n a' b' c' d' (by omega) (by omega) (by omega)
      exact absurd this hz
theorem low_c0 {q:Q} (hd:q.d≠0) (h:q.c0≠0):(low q).c0≠0:=by
  obtain ⟨_,⟨c,hc⟩,_⟩:=sg_dvd q
  have hn:=sg_ne hd
  show q.c0/sg_ q≠0
  rw [hc,Int.mul_ediv_cancel_left _ hn]
  rintro rfl
  rw [Int.mul_zero] at hc
  exact h hc
theorem low_parts {q:Q} (hd:q.d≠0):∃m:Int,m≠0∧q.c0=m*(low q).c0∧q.c1=m*(low q).c1∧q.c2=m*(low q).c2∧q.c3=m*(low q).c3∧q.d=m*(low q).d:=by
  obtain ⟨d,d0,d1,d2,d3⟩:=sg_dvd q
  have hn:=sg_ne hd
  have f:∀ {x:Int},sg_ q∣x→x=sg_ q*(x/sg_ q):=fun h=>(Int.mul_ediv_cancel' h).symm
  exact ⟨sg_ q,hn,f d0,f d1,f d2,f d3,f d⟩
theorem qtwo_parts {y:Q} (oy:y.ok=true):∃m:Int,m≠0∧y.c0*y.c0+2*(y.c1*y.c1)-3*(y.c2*y.c2)-6*(y.c3*y.c3)=m*(qtwo y).c0∧2*(y.c0*y.c1)-6*(y.c2*y.c3)=m*(qtwo y).c1∧(qtwo y).c2=0∧(qtwo y).c3=0:=by
  have hd:=dd_ne oy (show (cj2 y).ok=true from by rw [cj2_ok,oy])
  obtain ⟨m,hm,h0,h1,h2,h3,_⟩:=low_parts (q:=qprod y (cj2 y)) hd
  refine ⟨m,hm,?_,?_,?_,?_⟩
  · show _=m*(low (qprod y (cj2 y))).c0
    rw [←h0]
    simp only [qprod,cj2,Int.mul_neg]
    omega
  · show _=m*(low (qprod y (cj2 y))).c1
    rw [←h1]
    simp only [qprod,cj2,Int.mul_neg]
    rw [Int.mul_comm y.c1 y.c0,Int.mul_comm y.c3 y.c2]
    omega
  · have e:(qprod y (cj2 y)).c2=0:=by
      simp only [qprod,cj2,Int.mul_neg]
      rw [Int.mul_comm y.c2 y.c0,Int.mul_comm y.c3 y.c1]
      omega
    rw [e] at h2
    rcases Int.mul_eq_zero.1 h2.symm with h|h
    · exact absurd h hm
    · exact h
  · have e:(qprod y (cj2 y)).c3=0:=by
      simp only [qprod,cj2,Int.mul_neg]
      rw [Int.mul_comm y.c3 y.c0,Int.mul_comm y.c2 y.c1]
      omega
    rw [e] at h3
    rcases Int.mul_eq_zero.1 h3.symm with h|h
    · exact absurd h hm
    · exact h
theorem qtwo_ok {y:Q} (oy:y.ok=true):(qtwo y).ok=true:=qmul_ok oy (by rw [cj2_ok,oy])
theorem qone_ok {y:Q} (oy:y.ok=true):(qone y).ok=true:=qmul_ok (qtwo_ok oy) (by rw [cj1_ok,qtwo_ok oy])
theorem qone_ne {y:Q} (oy:y.ok=true) (hy:¬(y.c0=0∧y.c1=0∧y.c2=0∧y.c3=0)):(qone y).c0≠0:=by
  obtain ⟨m,hm,h0,h1,h2,h3⟩:=qtwo_parts oy
  have ot:=qtwo_ok oy
  refine low_c0 (q:=qprod (qtwo y) (cj1 (qtwo y))) (dd_ne ot (by rw [cj1_ok,ot])) fun hz=> ?_
  have e:(qtwo y).c0*(qtwo y).c0=2*((qtwo y).c1*(qtwo y).c1):=by
    simp only [qprod,cj1,h2,h3,Int.mul_neg,Int.mul_zero,Int.zero_mul,Int.neg_zero] at hz
    omega
  obtain ⟨z0,z1⟩:=root2 _ _ _ (Nat.le_refl _) e
  rw [z0,Int.mul_zero] at h0
  rw [z1,Int.mul_zero] at h1
  exact hy (root3 _ _ _ _ _ (Nat.le_refl _) (by omega) (by omega))
theorem qinv_ok {y:Q} (oy:y.ok=true) (hy:¬(y.c0=0∧y.c1=0∧y.c2=0∧y.c3=0)):(qinv y).ok=true:=low_ok (q:=⟨(qone y).d,0,0,0,(qone y).c0⟩) (qone_ne oy hy)
end Go.Proofs.YtpejalpgficopaaGreatDoor.G
end
