/- A part of what the law's proof leans on. PACKED BY pack.py of this repo. -/
import Derived.Test.YtdadecjefafflaaDoorProg
import Derived.Below
import Derived.Deep.Draws
import Derived.Deep.AppendLies
import Derived.Maps.AppendAt
import Derived.OwnWalk
import Derived.Laws.BytesArg
import Derived.Laws.MakeOwn
import Derived.Laws.OwnMore
import Derived.Deep.OwnRows
import Derived.Tactics
import Derived.Lib.ConvBytes
import Derived.Laws.Slices
import Derived.WalkKit
import Derived.KernelRfl
import Derived.RowKit3
import Derived.Deep.LoopGhost
import Derived.Deep.QuietTactic
import Derived.BigQuiet
import Derived.WideLaws
import Derived.Deep.DeepCutAuto
import Derived.Deep.CutBlock
import Derived.Deep.RegionHeld3
import Derived.Laws.Rows
import Derived.Lib.AppendStr
import Derived.ArgAppend
import Derived.Laws.IdiomCopy
import Derived.OrdersHeld
import Derived.Laws.BitsLemmas
import Derived.RowKit
import Derived.Shelf.Abstract
import Derived.Lib.SliceRun
import Derived.Laws.StructEq
import Derived.Test.YtdadecjefafflaaDoorLy
import Derived.Lib.OwnBridge
import Derived.Lib.AppendIntMem
import Derived.Shelf.SlSortCmp.Kit1
import Derived.Sort.WalkB2
import Derived.Sort.WalkB12
import Derived.ChangeSlices
import Derived.Lib.SmallJoins
import Derived.ProofKit
import Derived.OpenShut
import Derived.ShutString
import Derived.ChangeOld
import Derived.LaidMore
import Derived.Lay
import Derived.SevenTiedAt
import Derived.Stop.Joined
import Derived.Lib.LaidTab
import Derived.Stop.LaidErr
set_option linter.unusedVariables false
set_option linter.unusedSimpArgs false
set_option linter.defProp false
set_option linter.unusedSectionVars false
namespace Go.Proofs
theorem yC {w W:Go.World} {a:Go.Addr} {u:Go.Value} (hb:Go.RowKit.Below w.heap.size w W) (h:w.cell? a=some u):W.cell? a=some u:=(hb.cell (Go.World.block_lt_of_cell? w _ h)).trans h
theorem yD {p:Prop} [Decidable p] (h:decide p=true:=by first|(with_reducible assumption)|assumption):p:=of_decide_eq_true h
theorem zD6 {p:Prop} (h:p:=by repeat (first|(with_reducible first|exact HB.out|apply AE|apply AC|apply AD|refine AI ?_ GE176.out)|exact HB.out)):p:=h
theorem zD5 {p:Prop} (h:p:=by repeat (first|(with_reducible first|exact HB.out|apply AE|apply AC|apply AD|refine AI ?_ GE117.out)|exact HB.out)):p:=h
theorem zD4 {p:Prop} (h:p:=by (with_reducible repeat (first|refine AG ?_ _|refine AH ?_|refine AF ?_ _)); exact BK287.out):p:=h
theorem zD3 {p:Prop} (h:p:=by (with_reducible repeat (first|refine AG ?_ _|refine AH ?_|refine AF ?_ _)); exact BK280.out):p:=h
theorem zD2 {p:Prop} (h:p:=by (with_reducible repeat (first|refine AG ?_ _|refine AH ?_|refine AF ?_ _)); exact BK260.out):p:=h
theorem zD1 {p:Prop} (h:p:=by (with_reducible repeat (first|refine AG ?_ _|refine AH ?_|refine AF ?_ _)); exact BK176.out):p:=h
theorem zD0 {p:Prop} (h:p:=by (with_reducible repeat (first|refine AG ?_ _|refine AH ?_|refine AF ?_ _)); exact BK135.out):p:=h
theorem zC9 {p:Prop} (h:p:=by (with_reducible repeat (first|apply Kd.R_alloc|apply Kd.R_drewN|apply Kd.R_drew)); exact HO_5.out):p:=h
theorem zC8 {p:Prop} (h:p:=by (with_reducible repeat (first|apply Kd.R_alloc|apply Kd.R_drewN|apply Kd.R_drew)); exact HO211.out):p:=h
theorem zC7 {p:Prop} (h:p:=by (with_reducible repeat (first|apply Kd.S_alloc|apply Kd.S_drewN|apply Kd.S_drew)); exact HO207.out):p:=h
theorem zC6 {p:Prop} (h:p:=by repeat (first|(with_reducible first|exact HB.out|apply AE|apply AC|apply AD|refine AI ?_ GE230.out|refine AI ?_ GE231.out|refine AI ?_ GE232.out|refine AI ?_ GE234.out)|exact HB.out)):p:=h
theorem zC5 {p:Prop} (h:p:=by repeat (first|(with_reducible first|exact HB.out|apply AE|apply AC|apply AD|refine AI ?_ GE142.out|refine AI ?_ GE149.out)|exact HB.out)):p:=h
theorem zC4 {p:Prop} (h:p:=by (with_reducible repeat (first|refine AG ?_ _|refine AH ?_|refine AF ?_ _)); exact BK149.out):p:=h
theorem zC3 {p:Prop} (h:p:=by repeat (first|(with_reducible first|exact HB.out|apply AE|apply AC|apply AD|refine AI ?_ GE344.out)|exact HB.out)):p:=h
theorem zC2 {p:Prop} (h:p:=by repeat (first|(with_reducible first|exact HB.out|apply AE|apply AC|apply AD|refine AI ?_ GE287.out)|exact HB.out)):p:=h
theorem zC1 {p:Prop} (h:p:=by repeat (first|(with_reducible first|exact HB.out|apply AE|apply AC|apply AD|refine AI ?_ GE280.out)|exact HB.out)):p:=h
theorem zC0 {p:Prop} (h:p:=by repeat (first|(with_reducible first|exact HB.out|apply AE|apply AC|apply AD|refine AI ?_ GE260.out)|exact HB.out)):p:=h
theorem zB9 {p:Prop} (h:p:=by repeat (first|(with_reducible first|exact HB.out|apply AE|apply AC|apply AD|refine AI ?_ GE165.out)|exact HB.out)):p:=h
theorem zB8 {p:Prop} (h:p:=by (with_reducible repeat (first|apply Kd.N_alloc|apply Kd.N_drewN|apply Kd.N_drew)); exact HO407.out):p:=h
theorem zB7 {p:Prop} (h:p:=by (with_reducible repeat (first|refine AG ?_ _|refine AH ?_|refine AF ?_ _)); exact BK231.out):p:=h
theorem zB6 {p:Prop} (h:p:=by repeat (first|(with_reducible first|exact HB.out|apply AE|apply AC|apply AD|refine AI ?_ GE313.out)|exact HB.out)):p:=h
theorem zB5 {p:Prop} (h:p:=by repeat (first|(with_reducible first|exact HB.out|apply AE|apply AC|apply AD|refine AI ?_ GE142.out)|exact HB.out)):p:=h
theorem zB4 {p:Prop} (h:p:=by (with_reducible repeat (first|refine AG ?_ _|refine AH ?_|refine AF ?_ _)); exact BK251.out):p:=h
theorem zB3 {p:Prop} (h:p:=by (with_reducible repeat (first|apply Kd.R_alloc|apply Kd.R_drewN|apply Kd.R_drew)); exact HO402.out):p:=h
theorem zB2 {p:Prop} (h:p:=by repeat (first|(with_reducible first|exact HB.out|apply AE|apply AC|apply AD|refine AI ?_ GE129.out|refine AI ?_ GE130.out|refine AI ?_ GE135.out)|exact HB.out)):p:=h
theorem zB1 {p:Prop} (h:p:=by repeat (first|(with_reducible first|exact HB.out|apply AE|apply AC|apply AD|refine AI ?_ GE251.out)|exact HB.out)):p:=h
theorem zB0 {p:Prop} (h:p:=by repeat (first|(with_reducible first|exact HB.out|apply AE|apply AC|apply AD|refine AI ?_ GE208.out)|exact HB.out)):p:=h
theorem zA9 {p:Prop} (h:p:=by (with_reducible repeat (first|refine AG ?_ _|refine AH ?_|refine AF ?_ _)); exact BK230.out):p:=h
theorem zA8 {p:Prop} (h:p:=by (with_reducible repeat (first|refine AG ?_ _|refine AH ?_|refine AF ?_ _)); refine Am (cs:= #[.string ((AM l0_1 x32_2).f0),.int .i64 ((AM l0_1 x32_2).f1),.int .i64 ((AM l0_1 x32_2).f2),.slice none 0 0]) ?_ 3 _ rfl; (with_reducible repeat (first|refine AG ?_ _|refine AH ?_|refine AF ?_ _)); refine Am (cs:= #[.string ((AM l0_1 x32_2).f0),.int .i64 ((AM l0_1 x32_2).f1),.int .i64 0,.slice none 0 0]) ?_ 2 _ rfl; (with_reducible repeat (first|refine AG ?_ _|refine AH ?_|refine AF ?_ _)); refine Am (cs:= #[.string ((AM l0_1 x32_2).f0),.int .i64 0,.int .i64 0,.slice none 0 0]) ?_ 1 _ rfl; (with_reducible repeat (first|refine AG ?_ _|refine AH ?_|refine AF ?_ _)); refine Am (cs:= #[.string (⟨#[]⟩:ByteArray),.int .i64 0,.int .i64 0,.slice none 0 0]) ?_ 0 _ rfl; (with_reducible repeat (first|refine AG ?_ _|refine AH ?_|refine AF ?_ _)); refine Aa ?_ NB136_135.out _; (with_reducible repeat (first|refine AG ?_ _|refine AH ?_|refine AF ?_ _)); exact BK136.out):p:=h
theorem zA7 {p:Prop} (h:p:=by (with_reducible repeat (first|apply Kd.R_alloc|apply Kd.R_drewN|apply Kd.R_drew)); exact HO398.out):p:=h
theorem zA6 {p:Prop} (h:p:=by simp):p:=h
theorem zA5 {p:Prop} (h:p:=by (with_reducible repeat (first|refine AG ?_ _|refine AH ?_|refine AF ?_ _)); exact BK142.out):p:=h
theorem zA4 {p:Prop} (h:p:=by (with_reducible repeat (first|apply Kd.R_alloc|apply Kd.R_drewN|apply Kd.R_drew)); exact HO395.out):p:=h
theorem zA3 {p:Prop} (h:p:=by (with_reducible repeat (first|apply Kd.N_alloc|apply Kd.N_drewN|apply Kd.N_drew)); exact HO392.out):p:=h
theorem zA2 {p:Prop} (h:p:=by decide):p:=h
theorem zA1 {p:Prop} (h:p:=by (with_reducible repeat (first|refine AG ?_ _|refine AH ?_|refine AF ?_ _)); exact BK314.out):p:=h
theorem zA0 {p:Prop} (h:p:=by repeat (first|(with_reducible first|exact HB.out|apply AE|apply AC|apply AD|refine AI ?_ GE129.out|refine AI ?_ GE130.out|refine AI ?_ GE135.out|refine AI ?_ GE136.out)|exact HB.out)):p:=h
theorem zZ {p:Prop} (h:p:=by (with_reducible repeat (first|refine AG ?_ _|refine AH ?_|refine AF ?_ _)); exact BK185.out):p:=h
theorem zY {p:Prop} (h:p:=by (with_reducible repeat (first|apply Kd.R_alloc|apply Kd.R_drewN|apply Kd.R_drew)); exact HO_7.out):p:=h
theorem zX {p:Prop} (h:p:=by (with_reducible repeat (first|apply Kd.N_alloc|apply Kd.N_drewN|apply Kd.N_drew)); exact HO381.out):p:=h
theorem zW {p:Prop} (h:p:=by repeat (first|(with_reducible first|exact HB.out|apply AE|apply AC|apply AD|refine AI ?_ GE129.out|refine AI ?_ GE130.out)|exact HB.out)):p:=h
theorem zV {p:Prop} (h:p:=by (with_reducible repeat (first|refine AG ?_ _|refine AH ?_|refine AF ?_ _)); exact BK313.out):p:=h
theorem zU {p:Prop} (h:p:=by (with_reducible repeat (first|refine AG ?_ _|refine AH ?_|refine AF ?_ _)); exact BK130.out):p:=h
theorem zT {p:Prop} (h:p:=by (with_reducible repeat (first|apply Kd.R_alloc|apply Kd.R_drewN|apply Kd.R_drew)); exact HO384.out):p:=h
theorem zS {p:Prop} (h:p:=by repeat (first|(with_reducible first|exact HB.out|apply AE|apply AC|apply AD|refine AI ?_ GE313.out|refine AI ?_ GE314.out)|exact HB.out)):p:=h
theorem zR {p:Prop} (h:p:=by (with_reducible repeat (first|refine AG ?_ _|refine AH ?_|refine AF ?_ _)); refine Aa ?_ NB130_136.out _; (with_reducible repeat (first|refine AG ?_ _|refine AH ?_|refine AF ?_ _)); refine Aa ?_ NB130_136.out _; (with_reducible repeat (first|refine AG ?_ _|refine AH ?_|refine AF ?_ _)); refine Aa ?_ NB130_136.out _; (with_reducible repeat (first|refine AG ?_ _|refine AH ?_|refine AF ?_ _)); refine Aa ?_ NB130_136.out _; (with_reducible repeat (first|refine AG ?_ _|refine AH ?_|refine AF ?_ _)); refine Aa ?_ NB130_135.out _; (with_reducible repeat (first|refine AG ?_ _|refine AH ?_|refine AF ?_ _)); exact BK130.out):p:=h
theorem zQ {p:Prop} (h:p:=by (with_reducible repeat (first|refine AG ?_ _|refine AH ?_|refine AF ?_ _)); refine Aa ?_ NB129_136.out _; (with_reducible repeat (first|refine AG ?_ _|refine AH ?_|refine AF ?_ _)); refine Aa ?_ NB129_136.out _; (with_reducible repeat (first|refine AG ?_ _|refine AH ?_|refine AF ?_ _)); refine Aa ?_ NB129_136.out _; (with_reducible repeat (first|refine AG ?_ _|refine AH ?_|refine AF ?_ _)); refine Aa ?_ NB129_136.out _; (with_reducible repeat (first|refine AG ?_ _|refine AH ?_|refine AF ?_ _)); refine Aa ?_ NB129_135.out _; (with_reducible repeat (first|refine AG ?_ _|refine AH ?_|refine AF ?_ _)); exact BK129.out):p:=h
theorem zP {p:Prop} (h:p:=by (with_reducible repeat (first|refine AG ?_ _|refine AH ?_|refine AF ?_ _)); refine Aa ?_ NB135_136.out _; (with_reducible repeat (first|refine AG ?_ _|refine AH ?_|refine AF ?_ _)); refine Aa ?_ NB135_136.out _; (with_reducible repeat (first|refine AG ?_ _|refine AH ?_|refine AF ?_ _)); refine Aa ?_ NB135_136.out _; (with_reducible repeat (first|refine AG ?_ _|refine AH ?_|refine AF ?_ _)); refine Aa ?_ NB135_136.out _; (with_reducible repeat (first|refine AG ?_ _|refine AH ?_|refine AF ?_ _)); refine Am (cs:= #[.int .i64 0]) ?_ 0 _ rfl; (with_reducible repeat (first|refine AG ?_ _|refine AH ?_|refine AF ?_ _)); exact BK135.out):p:=h
theorem zO {p:Prop} (h:p:=by repeat (first|(with_reducible first|exact HB.out|apply AE|apply AC|apply AD|refine AI ?_ GE251.out|refine AI ?_ GE253.out)|exact HB.out)):p:=h
theorem zN {p:Prop} (h:p:=by (with_reducible repeat (first|apply Kd.N_alloc|apply Kd.N_drewN|apply Kd.N_drew)); exact HO370.out):p:=h
theorem zM {p:Prop} (h:p:=by (with_reducible repeat (first|refine AG ?_ _|refine AH ?_|refine AF ?_ _)); exact BK129.out):p:=h
theorem zL {p:Prop} (h:p:=by (with_reducible repeat (first|apply Kd.R_alloc|apply Kd.R_drewN|apply Kd.R_drew)); exact HO373.out):p:=h
theorem zK {p:Prop} (h:p:=by repeat (first|(with_reducible first|exact HB.out|apply AE|apply AC|apply AD|refine AI ?_ GE185.out)|exact HB.out)):p:=h
theorem zJ {p:Prop} (h:p:=by (with_reducible repeat (first|refine AG ?_ _|refine AH ?_|refine AF ?_ _)); exact BK363.out):p:=h
theorem zI {p:Prop} (h:p:=by omega):p:=h
theorem zH {p:Prop} (h:p:=by repeat (first|(with_reducible first|exact HB.out|apply AE|apply AC|apply AD|refine AI ?_ GE363.out)|exact HB.out)):p:=h
theorem zG {p:Prop} (h:p:=by first|rfl|(simp; done)|(simp [*]; done)):p:=h
theorem zF {p:Prop} (h:p:=by (with_reducible repeat (first|refine AG ?_ _|refine AH ?_|refine AF ?_ _)); refine Aa ?_ NB251_253.out _; (with_reducible repeat (first|refine AG ?_ _|refine AH ?_|refine AF ?_ _)); refine Aa ?_ NB251_253.out _; (with_reducible repeat (first|refine AG ?_ _|refine AH ?_|refine AF ?_ _)); refine Aa ?_ NB251_253.out _; (with_reducible repeat (first|refine AG ?_ _|refine AH ?_|refine AF ?_ _)); refine Aa ?_ NB251_253.out _; (with_reducible repeat (first|refine AG ?_ _|refine AH ?_|refine AF ?_ _)); exact BK251.out):p:=h
theorem zE {p:Prop} (h:p:=by kernel_rfl):p:=h
theorem zD {p:Prop} (h:p:=by (try simp only [List.map_toArray,List.map_cons,List.map_nil]); first|done|rfl|(simp only [List.length_drop,List.length_take]; rfl)):p:=h
theorem zC {p:Prop} (h:p:=by (with_reducible repeat (first|refine AG ?_ _|refine AH ?_|refine AF ?_ _)); refine Am (cs:= #[.string ((AL l0_1 x3_2).f0),.int .i64 ((AL l0_1 x3_2).f1),.int .i64 ((AL l0_1 x3_2).f2),.slice none 0 0]) ?_ 3 _ rfl; (with_reducible repeat (first|refine AG ?_ _|refine AH ?_|refine AF ?_ _)); refine Am (cs:= #[.string ((AL l0_1 x3_2).f0),.int .i64 ((AL l0_1 x3_2).f1),.int .i64 0,.slice none 0 0]) ?_ 2 _ rfl; (with_reducible repeat (first|refine AG ?_ _|refine AH ?_|refine AF ?_ _)); refine Am (cs:= #[.string ((AL l0_1 x3_2).f0),.int .i64 0,.int .i64 0,.slice none 0 0]) ?_ 1 _ rfl; (with_reducible repeat (first|refine AG ?_ _|refine AH ?_|refine AF ?_ _)); refine Am (cs:= #[.string (⟨#[]⟩:ByteArray),.int .i64 0,.int .i64 0,.slice none 0 0]) ?_ 0 _ rfl; (with_reducible repeat (first|refine AG ?_ _|refine AH ?_|refine AF ?_ _)); exact BK253.out):p:=h
theorem zB {p:Prop} (h:p:=by repeat (first|(with_reducible first|exact HB.out|apply AE|apply AC|apply AD)|exact HB.out)):p:=h
theorem zA {p:Prop} (h:p:=by first|(with_reducible assumption)|assumption):p:=h
end Go.Proofs
namespace Go.Proofs
end Go.Proofs
section
namespace Go.Proofs.YtdadecjefafflaaDoorW.PrintWords
set_option maxRecDepth 100000
open Go.RowKit
structure Aside0 (p:Prop):Prop where mk::(out:p)
theorem yA {p:Prop} (h:p):Aside0 p:=⟨h⟩
structure Drawn0 (w w':World):Prop where mk::(out:∃n,w'=w.drewN n)
theorem Drawn0.refl (w:World):Drawn0 w w:=⟨⟨0,rfl⟩⟩
theorem Drawn0.step {w w':World} (h:Drawn0 w w') (n:Nat):Drawn0 w (w'.drewN n):=by
 obtain ⟨m,rfl⟩:=h
 exact ⟨⟨m+n,World.drewN_drewN ..⟩⟩
theorem Drawn0.below {w w':World} (h:Drawn0 w w'):Below w.heap.size w w':=by
 obtain ⟨n,rfl⟩:=h
 induction n with
 |zero=>exact Below.refl _ _
 |succ n ih=>rw [←World.drew_drewN]; exact ih.drew
def rd (xs:List Int) (i:Int):Int:=xs.getD i.toNat 0
def bt (s:ByteArray) (i:Int):Int:=if h:i.toNat<s.size then ((s[i.toNat]'h).toNat:Int) else 0
theorem CB (s:ByteArray) (i:Int):∀h:i.toNat<s.size,((s[i.toNat]'h).toNat:Int)=bt s i:=fun h=>by simp [bt,h]
def nums (k:IntKind) (xs:List Int):List Value:=xs.map fun x=> .int k x
theorem D4 (k:IntKind) (xs:List Int):(nums k xs).length=xs.length:=by simp [nums]
theorem AE {w W:World} (h:Below w.heap.size w W) (o:Obj):Below w.heap.size w (W.alloc o):=h.alloc h.size o
theorem CG {B:Nat} {w W:World} (h:Below B w W):Below B w W.drew:=⟨h.os,h.tape,h.output,h.size,h.block⟩
theorem AC {B:Nat} {w W:World} (h:Below B w W) (n:Nat):Below B w (W.drewN n):=⟨h.os,h.tape,h.output,h.size,h.block⟩
theorem C5 {B:Nat} {w w1 w2:World} (h:Below B w w1) (hB:B≤w1.heap.size) (k:Below w1.heap.size w1 w2):Below B w w2:=
 h.trans ⟨k.os,k.tape,k.output,k.size,fun i hi=>k.block i (Nat.lt_of_lt_of_le hi hB)⟩
theorem DX {w w1:World} (h:Below w.heap.size w w1) {a:Addr} {v:Value} (hc:w.cell? a=some v):w1.cell? a=some v:=(h.cell (World.block_lt_of_cell? w a hc)).trans hc
theorem CO (g j:Nat):(⟨g,0,none⟩:Addr).add j=⟨g,j,none⟩:=by unfold Addr.add; split<;>simp_all
def ReadsInt (w:World) (k:IntKind) (A:Option Addr) (n:Nat) (xs:List Int):Prop:=
 xs.length=n∧n≤9223372036854775807∧(0<n→∃ad,A=some ad∧∀j,j<n→w.cell? (ad.add j)=some (.int k (xs.getD j 0)))
theorem own_nil (W:World) (base:Nat) (e:TypeId) (size:Nat):W.ownsRow base e size (.slice none 0 0) 0 []:=⟨by simp,.inl ⟨rfl,rfl⟩⟩
theorem CR {w:World} {base:Nat} {e:TypeId} {size n:Nat} {v:Value} {xs:List Value} (h:w.ownsRow base e size v n xs) (k:Nat) (hk:v.ownBlock=some k):base≤k:=by
 rcases h.2 with ⟨rfl,_⟩|⟨g,cap,cur,rfl,hb,_⟩
 ·simp [Value.ownBlock] at hk
 ·have:g=k:=by simpa [Value.ownBlock] using hk
  omega
theorem FT {w:World} {base:Nat} {e:TypeId} {size n:Nat} {v:Value} {xs:List Value} (h:w.ownsRow base e size v n xs) (k:Nat) (hk:v.ownBlock=some k):k<w.heap.size:=by
 rcases h.2 with ⟨rfl,_⟩|⟨g,cap,cur,rfl,hb,hh,_⟩
 ·simp [Value.ownBlock] at hk
 ·have:g=k:=by simpa [Value.ownBlock] using hk
  subst this
  exact (Array.getElem?_eq_some_iff.1 hh).1
theorem DL {P:Program} {w:World} {base n:Nat} {e' src dst e:TypeId} {v:Value} {xs:List Int} (hs:P.underlying src=some (.slice e)) (he:P.underlying e=some (.int .u8)) (hd:P.underlying dst=some .string)
  (h:w.ownsRow base e' 1 v n (nums .u8 xs)):(convert src dst v).run P w= .ok (.string (strOfNums xs)) w:=by
 have hl:xs.length=n:=by have:=h.1; simp [nums] at this; exact this
 rcases h.2 with ⟨rfl,rfl⟩|⟨g,cap,cur,rfl,_⟩
 ·obtain rfl:xs=[]:=List.eq_nil_of_length_eq_zero hl
  exact run_convert_bytes_nil w src e hs he 0 0 dst hd
 ·refine run_convert_bytes_arg w src e hs he g 0 n cap xs hl (fun i hi=> ?_) dst hd
  have hc:=h.cells (g:=g) rfl i (.int .u8 (xs.getD i 0)) (by simp [nums,List.getElem?_eq_getElem (show i<xs.length by omega),List.getD_eq_getElem?_getD])
  have ha:(⟨g,0,none⟩:Addr).add i=⟨g,0+i,none⟩:=by unfold Addr.add; split<;>simp_all
  rwa [ha] at hc
section
variable {P:Program} {ops:Array Oper} {rest:List Oper} {o:Oper} {a:Act} {Q:Exit→Act→World→Prop}
end
section
variable {P:Program}
end
section
variable {P:Program} {ops:Array Oper} {rest:List Oper} {o:Oper} {a:Act} {Q:Exit→Act→World→Prop}
end
def LeO {α:Type} (a b:Option α):Prop:=∀r,a=some r→b=some r
theorem LeO.refl {α:Type} (a:Option α):LeO a a:=fun _ h=>h
theorem LeO.none {α:Type} (b:Option α):LeO Option.none b:=fun _ h=>by cases h
theorem LeO.trans {α:Type} {a b c:Option α} (h:LeO a b) (k:LeO b c):LeO a c:=fun r hr=>k r (h r hr)
theorem LeO.ite {α:Type} {c:Prop} [Decidable c] {a a' b b':Option α} (h:LeO a a') (k:LeO b b'):LeO (if c then a else b) (if c then a' else b'):=by
 split
 ·exact h
 ·exact k
theorem LeO.bind {α β:Type} {a a':Option α} {f f':α→Option β} (h:LeO a a') (k:∀x,LeO (f x) (f' x)):LeO (a.bind f) (a'.bind f'):=by
 intro r hr
 obtain ⟨x,hx,hf⟩:=Option.bind_eq_some_iff.1 hr
 exact Option.bind_eq_some_iff.2 ⟨x,h x hx,k x r hf⟩
theorem D5 {α:Type} {g:Nat→Option α} (h:∀k,LeO (g k) (g (k+1))) (k:Nat):∀j,LeO (g k) (g (k+j))
 |0=>LeO.refl _
 |j+1=>(D5 h k j).trans (h (k+j))
theorem D1 {α:Type} {g:Nat→Option α} (h:∀k,LeO (g k) (g (k+1))) {k k':Nat} (hk:k≤k') {r:α} (hr:g k=some r):g k'=some r:=by
 have:=D5 h k (k'-k) r hr
 rwa [Nat.add_sub_cancel' hk] at this
def Reps {α:Type} (R:α→List Value→Prop) (size:Nat) (ps:List α) (cs:List Value):Prop:=
 cs.length=ps.length*size∧∀j p,ps[j]? =some p→R p ((cs.drop (j*size)).take size)
theorem Reps.none {α:Type} (R:α→List Value→Prop) (size:Nat):Reps R size [] []:=⟨by simp,fun j p h=>by simp at h⟩
theorem Reps.snoc {α:Type} {R:α→List Value→Prop} {size:Nat} {ps:List α} {cs c:List Value} {p:α} (h:Reps R size ps cs) (hp:R p c) (hc:c.length=size):Reps R size (ps++[p]) (cs++c):=by
 refine ⟨by rw [List.length_append,h.1,hc,List.length_append,List.length_singleton,Nat.add_mul,Nat.one_mul],fun j q hq=> ?_⟩
 rcases Nat.lt_or_ge j ps.length with hj|hj
 ·rw [List.getElem?_append_left hj] at hq
  have h1:j*size+size≤cs.length:=by rw [h.1,←Nat.succ_mul]; exact Nat.mul_le_mul_right _ hj
  have h2:=h.2 j q hq
  rw [List.drop_append_of_le_length zI,List.take_append_of_le_length (by rw [List.length_drop]; omega)]
  exact h2
 ·have hj':j=ps.length:=by
   have:=(List.getElem?_eq_some_iff.1 hq).1
   rw [List.length_append,List.length_singleton] at this
   omega
  subst hj'
  have hq':p=q:=by simpa using hq
  subst hq'
  rw [←h.1,List.drop_left,←hc,List.take_length]
  exact hp
theorem Reps.imp_ {α:Type} {R R':α→List Value→Prop} {size:Nat} {ps:List α} {cs:List Value} (h:Reps R size ps cs) (hR:∀p c,R p c→R' p c):Reps R' size ps cs:=⟨h.1,fun j p hj=>hR _ _ (h.2 j p hj)⟩
def ReadsRow {α:Type} (R:α→List Value→Prop) (size:Nat) (w:World) (A:Option Addr) (n:Nat) (ps:List α):Prop:=
 ps.length=n∧n≤9223372036854775807∧(0<n→∃ad,A=some ad∧∀j p,ps[j]? =some p→∃c,c.length=size∧R p c∧∀i u,c[i]? =some u→w.cell? (ad.add (j*size+i))=some u)
theorem ReadsRow.get_ {α:Type} {R:α→List Value→Prop} {size:Nat} {w:World} {A:Option Addr} {n:Nat} {ps:List α} (h:ReadsRow R size w A n ps) (d:α) (i:Int) (h0:0≤i) (h1:i<n):
  ∃ad c,A=some ad∧c.length=size∧R (ps.getD i.toNat d) c∧∀j u,c[j]? =some u→w.cell? (ad.add (i.toNat*size+j))=some u:=by
 obtain ⟨ad,e,hc⟩:=h.2.2 zI
 have hl:i.toNat<ps.length:=by have:=h.1; omega
 obtain ⟨c,hs,hr,hcell⟩:=hc i.toNat _ (List.getElem?_eq_getElem hl)
 refine ⟨ad,c,e,hs,?_,hcell⟩
 rw [List.getD_eq_getElem?_getD,List.getElem?_eq_getElem hl]
 exact hr
theorem ReadsRow.imp_ {α:Type} {R R':α→List Value→Prop} {size:Nat} {w w1:World} {A:Option Addr} {n:Nat} {ps:List α} (h:ReadsRow R size w A n ps) (hb:Below w.heap.size w w1) (hR:∀p c,R p c→R' p c):ReadsRow R' size w1 A n ps:=
 ⟨h.1,h.2.1,fun hn=>by
  obtain ⟨ad,e,hc⟩:=h.2.2 hn
  refine ⟨ad,e,fun j p hj=> ?_⟩
  obtain ⟨c,hs,hr,hcell⟩:=hc j p hj
  exact ⟨c,hs,hR _ _ hr,fun i u hu=>DX hb (hcell i u hu)⟩⟩
theorem DZ {α:Type} {R:α→List Value→Prop} {w:World} {base n size:Nat} {e:TypeId} {v:Value} {ps:List α} {cs:List Value} (h:w.ownsRow base e size v n cs) (hR:Reps R size ps cs) (hn:ps.length=n):
  ∃A c,v= .slice A n c∧ReadsRow R size w A n ps:=by
 rcases Nat.eq_zero_or_pos n with h0|h0
 ·rcases h.2 with ⟨rfl,rfl⟩|⟨g,cap,cur,rfl,_⟩
  ·exact ⟨none,0,rfl,hn,by omega,fun hp=>absurd hp zI⟩
  ·exact ⟨_,cap,rfl,hn,by omega,fun hp=>absurd hp zI⟩
 ·obtain ⟨g,cap,rfl,_,_⟩:=h.form h0
  have hm:n≤9223372036854775807:=by
   rcases h.2 with ⟨_,h1⟩|⟨g',cap',cur,he,_,_,h1,h2,_⟩
   ·omega
   ·simp only [maxLen] at h2
    omega
  refine ⟨_,cap,rfl,hn,hm,fun _=>⟨_,rfl,fun j p hj=>⟨(cs.drop (j*size)).take size,?_,hR.2 j p hj,fun i u hu=> ?_⟩⟩⟩
  ·have hjl:=(List.getElem?_eq_some_iff.1 hj).1
   have h1:j*size+size≤cs.length:=by rw [hR.1,←Nat.succ_mul]; exact Nat.mul_le_mul_right _ hjl
   rw [List.length_take,List.length_drop]
   omega
  ·refine h.cells (g:=g) rfl _ u ?_
   rw [List.getElem?_take] at hu
   split at hu
   ·rw [List.getElem?_drop] at hu
    exact hu
   ·cases hu
theorem C0 (ad:Addr) (m j:Nat) (hj:0<j):ad.add (m+j)=⟨(ad.add m).block,(ad.add m).off+j,none⟩:=by
 unfold Addr.add
 by_cases hm:m=0
 ·subst hm
  simp [Nat.ne_of_gt hj]
 ·simp [hm,Nat.add_assoc]
section
variable {P:Program} {ops:Array Oper} {rest:List Oper} {o:Oper} {a:Act} {Q:Exit→Act→World→Prop}
theorem Ce {w0 W:World} (base:Nat) (hgd:o.guard=none) (s x:Operand) (t e:TypeId) (z:Value) (size bytes:Nat)
  (ho:o.op= .call {callee:= .builtin .append,args:= #[s,x],argTypes:= #[t,t]})
  (ht:P.underlying t=some (.slice e)) (hinfo:(P.info? e).map (fun i=>(i.zero,i.size,i.bytes))=some (some z,size,bytes)) (hz:z.cells.size=size) (hs0:0<size) (hb0:0<bytes)
  (v:Value) (n:Nat) (xs ys:List Value) (hs:a.eval s=v) (hx:a.eval x= .slice (some ⟨W.heap.size,0,none⟩) 1 1) (hys:ys.length=size) (h1:∀u∈ys,u.oneCell'=true)
  (HO:W.ownsRow base e size v n xs) (HB:Below base w0 W) (hbase:base≤W.heap.size) (hl:(n+1)*bytes≤140737488355328)
  (h:∀v1 w1,w1.ownsRow base e size v1 (n+1) (xs++ys)→Below base w0 w1→W.grownBy w1 v.ownBlock→(v1.ownBlock=v.ownBlock∨∃b,v1.ownBlock=some b∧W.heap.size≤b)→wpList P ops Q rest (a.put o.dst v1) w1):
  wpList P ops Q (o::rest) a (W.alloc (.cells ys.toArray e)):=by
 obtain ⟨i0,hi,hzz⟩:=Option.map_eq_some_iff.1 hinfo
 simp only [Prod.mk.injEq] at hzz
 obtain ⟨hz0,hz1,hz2⟩:=hzz
 have hlen:n+1≤140737488355328:=Nat.le_trans (Nat.le_mul_of_pos_right _ hb0) hl
 refine wpList_append_own_at (W.alloc (.cells ys.toArray e)) hgd s x t ho base e i0 z size bytes ht hi hz0 hz1 hz2 hz hs0 v n xs hs (HO.alloc _) ⟨W.heap.size,0,none⟩ 1 1 ys hx (by rw [hys]; simp)
  (by simpa using World.news_of_block (cs:=ys.toArray) (t:=e) (fr:=(0,0)) (heap_alloc_new W (.cells ys.toArray e))) h1 (by simp only [maxLen]; omega) hl (by simp; omega) ?_
 intro v1 w1 hown hg _ hat
 refine h v1 w1 hown ((HB.alloc hbase _).grown hg (by simp; omega) (CR HO)) (World.grownBy.trans (World.grownBy_alloc W _ _) hg) ?_
 rcases hat with hat|hat
 ·exact .inl hat
 ·exact .inr ⟨_,hat,by simp⟩
end
theorem own_ne {w:World} {base:Nat} {e t:TypeId} {size n g:Nat} {v:Value} {xs:List Value} {cs:Array Value} (h:w.ownsRow base e size v n xs) (hg:w.heap[g]? =some (.cells cs t (0,0))) (hne:e≠t):some g≠v.ownBlock:=by
 rcases h.2 with ⟨rfl,_⟩|⟨g',cap,cur,rfl,_,hh,_⟩
 ·simp [Value.ownBlock]
 ·intro he
  have:g=g':=by simpa [Value.ownBlock] using he
  subst this
  rw [hg] at hh
  injection hh with hh
  injection hh with _ ht
  exact hne ht.symm
theorem Ey {w:World} {g:Nat} {t:TypeId} {cs:Array Value} (h:w.heap[g]? =some (.cells cs t (0,0))) (i:Nat) (u:Value):(w.setCell ⟨g,i,none⟩ u).heap[g]? =some (.cells (cs.setIfInBounds i u) t (0,0)):=by
 simp [World.setCell,Array.getElem?_modify,h]
theorem Aa {w:World} {g:Nat} {t:TypeId} {cs:Array Value} (h:w.heap[g]? =some (.cells cs t (0,0))) {p:Addr} (hp:g≠p.block) (u:Value):(w.setCell p u).heap[g]? =some (.cells cs t (0,0)):=(Below.heap_setCell w p u g hp).trans h
theorem B0 {w:World} {g:Nat} {o:Obj} (h:w.heap[g]? =some o):g<w.heap.size:=(Array.getElem?_eq_some_iff.1 h).1
theorem AK {w:World} {g:Nat} {t:TypeId} {cs:Array Value} (h:w.heap[g]? =some (.cells cs t (0,0))) (i:Nat):w.cell? ⟨g,i,none⟩=cs[i]? :=cell_of_row w g i cs t (0,0) h
theorem AJ {w:World} {g:Nat} {t:TypeId} {cs:Array Value} (h:w.heap[g]? =some (.cells cs t (0,0))) (i:Nat):w.frozen? ⟨g,i,none⟩=false:=by simp [World.frozen?,h]
theorem BP {w w1:World} {g:Nat} {o:Obj} {row:Option Nat} (h:w.heap[g]? =some o) (hg:w.grownBy w1 row) (hne:some g≠row):w1.heap[g]? =some o:=(hg.block g (B0 h) hne).trans h
theorem CU {w:World} {g g':Nat} {t t':TypeId} {cs cs':Array Value} (h:w.heap[g]? =some (.cells cs t (0,0))) (h':w.heap[g']? =some (.cells cs' t' (0,0))) (hne:t≠t'):g≠g':=by
 rintro rfl
 rw [h] at h'
 injection h' with h'
 injection h' with _ ht
 exact hne ht
def Ev {α:Type} (g:Nat→Option α) (r:α):Prop:=∃K,∀k,K≤k→g k=some r
theorem Ev.of {α:Type} {g:Nat→Option α} {r:α} (hg:∀k,LeO (g k) (g (k+1))) {k:Nat} (h:g k=some r):Ev g r:=⟨k,fun _ hk=>D1 hg hk h⟩
theorem Ev.now {α:Type} (r:α):Ev (fun _=>some r) r:=⟨0,fun _ _=>rfl⟩
theorem Ev.bind {α β:Type} {g:Nat→Option α} {f:Nat→α→Option β} {a:α} {r:β} (h:Ev g a) (k:Ev (fun n=>f n a) r):Ev (fun n=>(g n).bind (f n)) r:=by
 obtain ⟨K,h⟩:=h
 obtain ⟨K',k⟩:=k
 refine ⟨max K K',fun n hn=> ?_⟩
 have h1:=h n zI
 have h2:=k n zI
 simp only [h1,Option.bind_some]
 exact h2
theorem Ev.step {α:Type} {g f:Nat→Option α} {r:α} (h:∀k,g (k+1)=f k) (k:Ev f r):Ev g r:=by
 obtain ⟨K,k⟩:=k
 refine ⟨K+1,fun n hn=> ?_⟩
 obtain ⟨m,rfl⟩:∃m,n=m+1:=⟨n-1,by omega⟩
 rw [h]
 exact k m zI
theorem Ev.congr {α:Type} {g f:Nat→Option α} {r:α} (h:∀k,g k=f k) (k:Ev f r):Ev g r:=by
 obtain ⟨K,k⟩:=k
 exact ⟨K,fun n hn=>(h n).trans (k n hn)⟩
section
variable {P:Program} {ops:Array Oper} {o:Oper} {a:Act} {Q:Exit→Act→World→Prop} {K:Act→World→Prop}
theorem Ck {w0 W:World} (base:Nat) (hw:Region.wanted o (yielded ops a.tmps)=true) (s x:Operand) (t e:TypeId) (z:Value) (size bytes:Nat)
  (ho:o.op= .call {callee:= .builtin .append,args:= #[s,x],argTypes:= #[t,t]})
  (ht:P.underlying t=some (.slice e)) (hinfo:(P.info? e).map (fun i=>(i.zero,i.size,i.bytes))=some (some z,size,bytes)) (hz:z.cells.size=size) (hs0:0<size) (hb0:0<bytes)
  (v:Value) (n:Nat) (xs ys:List Value) (hs:a.eval s=v) (hx:a.eval x= .slice (some ⟨W.heap.size,0,none⟩) 1 1) (hys:ys.length=size) (h1:∀u∈ys,u.oneCell'=true)
  (HO:W.ownsRow base e size v n xs) (HB:Below base w0 W) (hbase:base≤W.heap.size) (hl:(n+1)*bytes≤140737488355328)
  (h:∀v1 w1,w1.ownsRow base e size v1 (n+1) (xs++ys)→Below base w0 w1→W.grownBy w1 v.ownBlock→(v1.ownBlock=v.ownBlock∨∃b,v1.ownBlock=some b∧W.heap.size≤b)→K (a.put o.dst v1) w1):
  if Region.wanted o (yielded ops a.tmps)=true then Oper.wp P o a (W.alloc (.cells ys.toArray e)) K Q else K (a.put o.dst undef) (W.alloc (.cells ys.toArray e)):=by
 obtain ⟨i0,hi,hzz⟩:=Option.map_eq_some_iff.1 hinfo
 simp only [Prod.mk.injEq] at hzz
 obtain ⟨hz0,hz1,hz2⟩:=hzz
 have hlen:n+1≤140737488355328:=Nat.le_trans (Nat.le_mul_of_pos_right _ hb0) hl
 rw [if_pos hw]
 obtain ⟨v1,w1,hr,hown,hg,_,hat⟩:=run_append_own_at (P:=P) (W.alloc (.cells ys.toArray e)) base t o.type e i0 z size bytes ht hi hz0 hz1 hz2 hz hs0 v n xs (HO.alloc _) ⟨W.heap.size,0,none⟩ 1 1 ys (by rw [hys]; simp)
  (by simpa using World.news_of_block (cs:=ys.toArray) (t:=e) (fr:=(0,0)) (heap_alloc_new W (.cells ys.toArray e))) h1 (by simp only [maxLen]; omega) hl (by simp; omega)
 unfold Oper.wp execOp
 simp only [ho,resolve,invoke,builtin,Sem.run_bind,Sem.run_pure,Result.andThen_ok,List.map_toArray,List.map_cons,List.map_nil,hs,hx,hr]
 refine h v1 w1 hown ((HB.alloc hbase _).grown hg (by simp; omega) (CR HO)) (World.grownBy.trans (World.grownBy_alloc W _ _) hg) ?_
 rcases hat with hat|hat
 ·exact .inl hat
 ·exact .inr ⟨_,hat,by simp⟩
end
theorem ER {w:World} {base base':Nat} {e:TypeId} {size n:Nat} {v:Value} {xs:List Value} (h:w.ownsRow base e size v n xs) (hb:base'≤base):w.ownsRow base' e size v n xs:=by
 obtain ⟨h1,h2⟩:=h
 refine ⟨h1,?_⟩
 rcases h2 with h2|⟨g,cap,cur,rfl,hg,r⟩
 ·exact .inl h2
 ·exact .inr ⟨g,cap,cur,rfl,Nat.le_trans hb hg,r⟩
section
variable {α:Type} {enc:α→Value} {d:α}
def encs (enc:α→Value) (xs:List α):List Value:=xs.map enc
def rdOf (d:α) (xs:List α) (i:Int):α:=xs.getD i.toNat d
theorem D7 (xs:List α):(encs enc xs).length=xs.length:=by simp [encs]
theorem Fl (xs:List α) (j:Nat) (h:j<xs.length):(encs enc xs)[j]? =some (enc (xs.getD j d)):=by
 simp [encs,List.getElem?_eq_getElem h,List.getD_eq_getElem?_getD]
def ReadsOf (enc:α→Value) (d:α) (w:World) (A:Option Addr) (n:Nat) (xs:List α):Prop:=
 xs.length=n∧n≤9223372036854775807∧(0<n→∃ad,A=some ad∧∀j,j<n→w.cell? (ad.add j)=some (enc (xs.getD j d)))
theorem ReadsOf.at_ {w:World} {A:Option Addr} {n:Nat} {xs:List α} (h:ReadsOf enc d w A n xs) (i:Int) (h0:0≤i) (h1:i<n):∃ad,A=some ad∧w.cell? (ad.add i.toNat)=some (enc (rdOf d xs i)):=by
 obtain ⟨ad,e,hc⟩:=h.2.2 zI
 exact ⟨ad,e,hc _ zI⟩
theorem F6 {W:World} {base g n cap:Nat} {e:TypeId} {xs:List α} (h:W.ownsRow base e 1 (.slice (some ⟨g,0,none⟩) n cap) n (encs enc xs)) (i:Int) (h0:0≤i) (h1:i<n):
  W.cell? ⟨g,i.toNat,none⟩=some (enc (rdOf d xs i))∧W.frozen? ⟨g,i.toNat,none⟩=false:=by
 have hl:xs.length=n:=by have:=h.1; simp [encs] at this; exact this
 constructor
 ·have hc:=h.cells (g:=g) rfl i.toNat _ (Fl (d:=d) xs i.toNat zI)
  rwa [CO] at hc
 ·rcases h.2 with ⟨h',_⟩|⟨g',cap',cur,h',_,hh,_⟩
  ·cases h'
  ·have:g=g':=by injection h' with h'; injection h' with h'; injection h' with h'
   subst this
   simp [World.frozen?,hh]
theorem Do {W:World} {base g n cap:Nat} {e:TypeId} {xs:List α} (h:W.ownsRow base e 1 (.slice (some ⟨g,0,none⟩) n cap) n (encs enc xs)) (i:Int) (x:α):
  (W.setCell ⟨g,i.toNat,none⟩ (enc x)).ownsRow base e 1 (.slice (some ⟨g,0,none⟩) n cap) n (encs enc (xs.set i.toNat x))∧W.grownBy (W.setCell ⟨g,i.toNat,none⟩ (enc x)) (some g):=by
 have hs:=h.stored i.toNat (enc x)
 have he:(encs enc xs).set i.toNat (enc x)=encs enc (xs.set i.toNat x):=by simp [encs,List.map_set]
 rwa [he] at hs
end
section
variable {α:Type} {P:Program} {ops:Array Oper} {rest:List Oper} {o:Oper} {a:Act} {Q:Exit→Act→World→Prop}
end
theorem AF {w:World} {g:Nat} {o:Obj} (h:w.heap[g]? =some o) (o':Obj):(w.alloc o').heap[g]? =some o:=(Below.heap_alloc w o' g (B0 h)).trans h
theorem AH {w:World} {g:Nat} {o:Obj} (h:w.heap[g]? =some o):w.drew.heap[g]? =some o:=h
theorem AG {w:World} {g:Nat} {o:Obj} (h:w.heap[g]? =some o) (n:Nat):(w.drewN n).heap[g]? =some o:=h
theorem AP {w w1:World} {g:Nat} {o:Obj} (h:w.heap[g]? =some o) (hb:Below w.heap.size w w1):w1.heap[g]? =some o:=(hb.block g (B0 h)).trans h
theorem blk_new (w:World) (o:Obj):(w.alloc o).heap[w.heap.size]? =some o:=heap_alloc_new w o
section
variable {P:Program}
end
theorem own_le {w:World} {base n m c size:Nat} {e:TypeId} {A:Option Addr} {xs:List Value} (h:w.ownsRow base e size (.slice A m c) n xs):m≤c:=by
 rcases h.2 with ⟨he,_⟩|⟨g,cap,cur,he,_,_,hnc,_⟩
 ·injection he with _ h2 h3
  omega
 ·injection he with _ h2 h3
  omega
def OwnRow {α:Type} (R:α→List Value→Prop) (e:TypeId) (size:Nat) (w:World) (base:Nat) (v:Value) (ps:List α):Prop:=
 ∃inner,w.ownsRow base e size v ps.length inner∧Reps R size ps inner
section
variable {α:Type} {R R':α→List Value→Prop} {e:TypeId} {size:Nat} {w w1:World} {base:Nat} {v:Value} {ps:List α}
theorem OwnRow.none_ (R:α→List Value→Prop) (e:TypeId) (size:Nat) (w:World) (base:Nat):OwnRow R e size w base (.slice none 0 0) []:=⟨[],own_nil _ _ _ _,Reps.none _ _⟩
theorem OwnRow.imp_ (h:OwnRow R e size w base v ps) (hR:∀p c,R p c→R' p c):OwnRow R' e size w base v ps:=by
 obtain ⟨inner,ho,hr⟩:=h
 exact ⟨inner,ho,hr.imp_ hR⟩
theorem OwnRow.reads (h:OwnRow R e size w base v ps):∃A c,v= .slice A ps.length c∧ps.length≤c∧ReadsRow R size w A ps.length ps:=by
 obtain ⟨inner,ho,hr⟩:=h
 obtain ⟨A,c,rfl,hrow⟩:=DZ ho hr rfl
 exact ⟨A,c,rfl,own_le ho,hrow⟩
theorem OwnRow.ne_block (h:OwnRow R e size w base v ps) {g:Nat} {t:TypeId} {cells:Array Value} (hb:w.heap[g]? =some (.cells cells t (0,0))) (ht:e≠t):some g≠v.ownBlock:=by
 obtain ⟨inner,ho,hr⟩:=h
 exact own_ne ho hb ht
end
section
variable {P:Program} {ops:Array Oper} {rest:List Oper} {o:Oper} {a:Act} {Q:Exit→Act→World→Prop} {α:Type} {R:α→List Value→Prop}
end
section
variable {P:Program} {ops:Array Oper} {o:Oper} {a:Act} {Q:Exit→Act→World→Prop} {K:Act→World→Prop} {α:Type} {R:α→List Value→Prop}
end
theorem ReadsRow.inner_ {α:Type} {R:α→List Value→Prop} {size:Nat} {w:World} {ad:Addr} {n:Nat} {ps:List α} (h:ReadsRow R size w (some ad) n ps):
  ∃inner,Reps R size ps inner∧∀j u,inner[j]? =some u→w.cell? (ad.add j)=some u:=by
 have key:∀m,m≤ps.length→∃inner,Reps R size (ps.take m) inner∧∀j u,inner[j]? =some u→w.cell? (ad.add j)=some u:=by
  intro m
  induction m with
  |zero=>exact fun _=>⟨[],Reps.none _ _,fun j u hu=>by simp at hu⟩
  | succ m ih=>
   intro hm
   obtain ⟨inner,hr,hc⟩:=ih zI
   obtain ⟨ad',he,hcell⟩:=h.2.2 (by have:=h.1; omega)
   injection he with he
   subst he
   obtain ⟨c,hcl,hp,hcc⟩:=hcell m _ (List.getElem?_eq_getElem (show m<ps.length by omega))
   refine ⟨inner++c,?_,fun j u hu=> ?_⟩
   ·rw [List.take_succ_eq_append_getElem (show m<ps.length by omega)]
    exact hr.snoc hp hcl
   ·have hil:inner.length=m*size:=by rw [hr.1,List.length_take,Nat.min_eq_left zI]
    rcases Nat.lt_or_ge j inner.length with hj|hj
    ·rw [List.getElem?_append_left hj] at hu
     exact hc j u hu
    ·rw [List.getElem?_append_right hj] at hu
     have:=hcc (j-inner.length) u hu
     rwa [hil,Nat.add_sub_cancel' zI] at this
 obtain ⟨inner,hr,hc⟩:=key ps.length (Nat.le_refl _)
 rw [List.take_length] at hr
 exact ⟨inner,hr,hc⟩
section
variable {α:Type} {P:Program}
end
section
variable {P:Program} {ops:Array Oper} {rest:List Oper} {o:Oper} {a:Act} {Q:Exit→Act→World→Prop}
end
structure Kd (α:Type) where
 sz:Nat
 E:List Nat
 K:World→α→List Value→Prop
 M:World→Nat→(Nat→Prop)→α→List Value→Prop
 K_len:∀ {w x cs},K w x cs→cs.length=sz
 K_one:∀ {w x cs},K w x cs→∀u∈cs,u.oneCell'=true
 K_below:∀ {w w1:World} {x cs},Below w.heap.size w w1→K w x cs→K w1 x cs
 K_of_M:∀ {w base ok x cs},M w base ok x cs→K w x cs
 M_mono:∀ {w base ok ok' x cs},(∀k,ok k→ok' k)→M w base ok x cs→M w base ok' x cs
 M_bound:∀ {w:World} {base ok x cs},M w base ok x cs→M w base (fun k=>ok k∧base≤k∧k<w.heap.size∧∃q,q∈E∧∃cells,w.heap[k]? =some (.cells cells q (0,0))) x cs
 M_move:∀ {w w1:World} {base ok x cs},(∀k,ok k→w1.heap[k]? =w.heap[k]?)→M w base ok x cs→M w1 base ok x cs
 M_lower:∀ {w base base' ok x cs},base'≤base→M w base ok x cs→M w base' ok x cs
theorem E9 {w w1:World} {base:Nat} {e:TypeId} {size n:Nat} {v:Value} {xs:List Value} (h:w.ownsRow base e size v n xs) (hm:∀k,v.ownBlock=some k→w1.heap[k]? =w.heap[k]?):w1.ownsRow base e size v n xs:=by
 obtain ⟨h1,h2⟩:=h
 refine ⟨h1,?_⟩
 rcases h2 with h2|⟨g,cap,cur,rfl,hg,hh,r⟩
 ·exact .inl h2
 ·exact .inr ⟨g,cap,cur,rfl,hg,(hm g (by simp [Value.ownBlock])).trans hh,r⟩
theorem CM {w:World} {base:Nat} {e:TypeId} {size n:Nat} {v:Value} {xs:List Value} (h:w.ownsRow base e size v n xs) (k:Nat) (hk:v.ownBlock=some k):∃cells,w.heap[k]? =some (.cells cells e (0,0)):=by
 rcases h.2 with ⟨rfl,_⟩|⟨g,cap,cur,rfl,hg,hh,r⟩
 ·simp [Value.ownBlock] at hk
 ·have:g=k:=by simpa [Value.ownBlock] using hk
  subst this
  exact ⟨cur,hh⟩
namespace Kd
def C {α:Type} (d:Kd α) (w:World) (A:Option Addr) (n:Nat) (xs:List α):Prop:=ReadsRow (d.K w) d.sz w A n xs
def R {α:Type} (d:Kd α) (e:Nat) (w:World) (base:Nat) (ok:Nat→Prop) (v:Value) (xs:List α):Prop:=
 (∀k,v.ownBlock=some k→ok k)∧OwnRow (d.M w base (fun k=>ok k∧some k≠v.ownBlock)) e d.sz w base v xs
section
variable {α:Type} {d:Kd α} {e:Nat} {w w1:World} {base:Nat} {ok ok':Nat→Prop} {v:Value} {xs:List α}
theorem C_below {A:Option Addr} {n:Nat} (h:d.C w A n xs) (hb:Below w.heap.size w w1):d.C w1 A n xs:=ReadsRow.imp_ h hb (fun _ _ hp=>d.K_below hb hp)
theorem R_nil (d:Kd α) (e:Nat) (w:World) (base:Nat) (ok:Nat→Prop):d.R e w base ok (.slice none 0 0) []:=⟨fun k hk=>by simp [Value.ownBlock] at hk,OwnRow.none_ _ _ _ _ _⟩
theorem R_mono (h:d.R e w base ok v xs) (hok:∀k,ok k→ok' k):d.R e w base ok' v xs:=⟨fun k hk=>hok k (h.1 k hk),h.2.imp_ (fun _ _ hp=>d.M_mono (fun k hk=>⟨hok k hk.1,hk.2⟩) hp)⟩
theorem R_bound (h:d.R e w base ok v xs):d.R e w base (fun k=>ok k∧base≤k∧k<w.heap.size∧∃q,q∈e::d.E∧∃cells,w.heap[k]? =some (.cells cells q (0,0))) v xs:=by
 obtain ⟨h0,inner,ho,hr⟩:=h
 refine ⟨fun k hk=> ?_,inner,ho,hr.imp_ (fun _ _ hp=>d.M_mono (fun k hk=> ?_) (d.M_bound hp))⟩
 ·obtain ⟨cells,hc⟩:=CM ho k hk
  exact ⟨h0 k hk,CR ho k hk,FT ho k hk,e,List.mem_cons_self,cells,hc⟩
 ·obtain ⟨⟨h1,h2⟩,h3,h4,q,hq,hc⟩:=hk
  exact ⟨⟨h1,h3,h4,q,List.mem_cons_of_mem _ hq,hc⟩,h2⟩
theorem R_move (h:d.R e w base ok v xs) (hm:∀k,ok k→w1.heap[k]? =w.heap[k]?):d.R e w1 base ok v xs:=by
 obtain ⟨h0,inner,ho,hr⟩:=h
 exact ⟨h0,inner,E9 ho (fun k hk=>hm k (h0 k hk)),hr.imp_ (fun _ _ hp=>d.M_move (fun k hk=>hm k hk.1) hp)⟩
theorem R_lower {base':Nat} (h:d.R e w base ok v xs) (hb:base'≤base):d.R e w base' ok v xs:=by
 obtain ⟨h0,inner,ho,hr⟩:=h
 exact ⟨h0,inner,ER ho hb,hr.imp_ (fun _ _ hp=>d.M_lower hb hp)⟩
theorem Ea (h:d.R e w base ok v xs) (hm:∀k,ok k→k<w.heap.size→w1.heap[k]? =w.heap[k]?):d.R e w1 base ok v xs:=
 R_mono (R_move (R_bound h) (fun k hk=>hm k hk.1 hk.2.2.1)) (fun _ hk=>hk.1)
theorem Fu {x:α} {cs:List Value} (h:d.M w base ok x cs) (hm:∀k,ok k→k<w.heap.size→w1.heap[k]? =w.heap[k]?):d.M w1 base ok x cs:=
 d.M_mono (fun _ hk=>hk.1) (d.M_move (fun k hk=>hm k hk.1 hk.2.2.1) (d.M_bound h))
theorem R_below (h:d.R e w base ok v xs) (hb:Below w.heap.size w w1):d.R e w1 base ok v xs:=Ea h (fun k _ hk=>hb.block k hk)
theorem M_below {x:α} {cs:List Value} (h:d.M w base ok x cs) (hb:Below w.heap.size w w1):d.M w1 base ok x cs:=Fu h (fun k _ hk=>hb.block k hk)
theorem R_far (h:d.R e w base ok v xs) {p:Addr} (hok:∀k,ok k→k≠p.block) (u:Value):d.R e (w.setCell p u) base ok v xs:=Ea h (fun k ho _=>Below.heap_setCell w p u k (hok k ho))
theorem R_types (h:d.R e w base ok v xs) {g t:Nat} {cells:Array Value} (hb:w.heap[g]? =some (.cells cells t (0,0))) (ht:∀q,q∈e::d.E→q≠t):d.R e w base (fun k=>ok k∧k≠g) v xs:=
 R_mono (R_bound h) (fun k hk=>⟨hk.1,by
  obtain ⟨_,_,_,q,hq,cells',hc⟩:=hk
  rintro rfl
  rw [hc] at hb
  injection hb with hb
  injection hb with _ hb
  exact ht q hq hb⟩)
theorem R_set (h:d.R e w base ok v xs) {g t:Nat} {cells:Array Value} (hb:w.heap[g]? =some (.cells cells t (0,0))) (ht:∀q,q∈e::d.E→q≠t) (j:Nat) (u:Value):d.R e (w.setCell ⟨g,j,none⟩ u) base ok v xs:=
 R_mono (R_far (p:=⟨g,j,none⟩) (R_types h hb ht) (fun _ hk=>hk.2) u) (fun _ hk=>hk.1)
theorem Dx (h:d.R e w base ok v xs):∃A c,v= .slice A xs.length c∧xs.length≤c∧d.C w A xs.length xs:=by
 obtain ⟨A,c,he,hl,hr⟩:=OwnRow.reads h.2
 exact ⟨A,c,he,hl,hr.imp_ (Below.refl _ _) (fun _ _ hp=>d.K_of_M hp)⟩
theorem R_slice (h:d.R e w base ok v xs):∃A c,v= .slice A xs.length c:=by
 obtain ⟨A,c,he,_⟩:=Dx h
 exact ⟨A,c,he⟩
theorem F0 (h:d.R e w base ok v xs):∃inner,w.ownsRow base e d.sz v xs.length inner:=by
 obtain ⟨_,inner,ho,_⟩:=h
 exact ⟨inner,ho⟩
theorem R_ne (h:d.R e w base ok v xs) {g t:Nat} {cells:Array Value} (hb:w.heap[g]? =some (.cells cells t (0,0))) (ht:e≠t):some g≠v.ownBlock:=OwnRow.ne_block h.2 hb ht
end
def scalar {α:Type} (enc:α→Value) (h1:∀x,(enc x).oneCell'=true):Kd α where
 sz:=1
 E:=[]
 K:=fun _ x cs=>cs=[enc x]
 M:=fun _ _ _ x cs=>cs=[enc x]
 K_len:=fun h=>by rw [h]; rfl
 K_one:=fun h u hu=>by
  rw [h] at hu
  rw [List.mem_singleton.1 hu]
  exact h1 _
 K_below:=fun _ h=>h
 K_of_M:=fun h=>h
 M_mono:=fun _ h=>h
 M_bound:=fun h=>h
 M_move:=fun _ h=>h
 M_lower:=fun _ h=>h
def int (k:IntKind):Kd Int:=scalar (Value.int k) (fun _=>rfl)
def bool:Kd Bool:=scalar Value.bool (fun _=>rfl)
def string:Kd ByteArray:=scalar Value.string (fun _=>rfl)
def slice {α:Type} (e:Nat) (d:Kd α):Kd (List α) where
 sz:=1
 E:=e::d.E
 K:=fun w xs cs=>∃A c,cs=[.slice A xs.length c]∧xs.length≤c∧d.C w A xs.length xs
 M:=fun w base ok xs cs=>∃v,cs=[v]∧d.R e w base ok v xs
 K_len:=by
  rintro w x cs ⟨A,c,rfl,_⟩
  rfl
 K_one:=by
  rintro w x cs ⟨A,c,rfl,_⟩ u hu
  rw [List.mem_singleton.1 hu]
  rfl
 K_below:=by
  rintro w w1 x cs hb ⟨A,c,rfl,hl,hr⟩
  exact ⟨A,c,rfl,hl,C_below hr hb⟩
 K_of_M:=by
  rintro w base ok x cs ⟨v,rfl,h⟩
  obtain ⟨A,c,rfl,hl,hr⟩:=Dx h
  exact ⟨A,c,rfl,hl,hr⟩
 M_mono:=by
  rintro w base ok ok' x cs hok ⟨v,rfl,h⟩
  exact ⟨v,rfl,R_mono h hok⟩
 M_bound:=by
  rintro w base ok x cs ⟨v,rfl,h⟩
  exact ⟨v,rfl,R_bound h⟩
 M_move:=by
  rintro w w1 base ok x cs hm ⟨v,rfl,h⟩
  exact ⟨v,rfl,R_move h hm⟩
 M_lower:=by
  rintro w base base' ok x cs hb ⟨v,rfl,h⟩
  exact ⟨v,rfl,R_lower h hb⟩
def pair {α β:Type} (a:Kd α) (b:Kd β):Kd (α×β) where
 sz:=a.sz+b.sz
 E:=a.E++b.E
 K:=fun w x cs=>∃c0 c1,cs=c0++c1∧a.K w x.1 c0∧b.K w x.2 c1
 M:=fun w base ok x cs=>∃c0 c1,cs=c0++c1∧a.M w base ok x.1 c0∧b.M w base ok x.2 c1
 K_len:=by
  rintro w x cs ⟨c0,c1,rfl,h0,h1⟩
  rw [List.length_append,a.K_len h0,b.K_len h1]
 K_one:=by
  rintro w x cs ⟨c0,c1,rfl,h0,h1⟩ u hu
  rcases List.mem_append.1 hu with hu|hu
  ·exact a.K_one h0 u hu
  ·exact b.K_one h1 u hu
 K_below:=by
  rintro w w1 x cs hb ⟨c0,c1,rfl,h0,h1⟩
  exact ⟨c0,c1,rfl,a.K_below hb h0,b.K_below hb h1⟩
 K_of_M:=by
  rintro w base ok x cs ⟨c0,c1,rfl,h0,h1⟩
  exact ⟨c0,c1,rfl,a.K_of_M h0,b.K_of_M h1⟩
 M_mono:=by
  rintro w base ok ok' x cs hok ⟨c0,c1,rfl,h0,h1⟩
  exact ⟨c0,c1,rfl,a.M_mono hok h0,b.M_mono hok h1⟩
 M_bound:=by
  rintro w base ok x cs ⟨c0,c1,rfl,h0,h1⟩
  refine ⟨c0,c1,rfl,a.M_mono ?_ (a.M_bound h0),b.M_mono ?_ (b.M_bound h1)⟩
  ·rintro k ⟨h2,h3,h4,q,hq,hc⟩
   exact ⟨h2,h3,h4,q,List.mem_append_left _ hq,hc⟩
  ·rintro k ⟨h2,h3,h4,q,hq,hc⟩
   exact ⟨h2,h3,h4,q,List.mem_append_right _ hq,hc⟩
 M_move:=by
  rintro w w1 base ok x cs hm ⟨c0,c1,rfl,h0,h1⟩
  exact ⟨c0,c1,rfl,a.M_move hm h0,b.M_move hm h1⟩
 M_lower:=by
  rintro w base base' ok x cs hb ⟨c0,c1,rfl,h0,h1⟩
  exact ⟨c0,c1,rfl,a.M_lower hb h0,b.M_lower hb h1⟩
def iso {α β:Type} (d:Kd α) (f:β→α):Kd β where
 sz:=d.sz
 E:=d.E
 K:=fun w x cs=>d.K w (f x) cs
 M:=fun w base ok x cs=>d.M w base ok (f x) cs
 K_len:=d.K_len
 K_one:=d.K_one
 K_below:=d.K_below
 K_of_M:=d.K_of_M
 M_mono:=d.M_mono
 M_bound:=d.M_bound
 M_move:=d.M_move
 M_lower:=d.M_lower
def bot {α:Type} (sz:Nat) (E:List Nat):Kd α where
 sz:=sz
 E:=E
 K:=fun _ _ _=>False
 M:=fun _ _ _ _ _=>False
 K_len:=fun h=>h.elim
 K_one:=fun h=>h.elim
 K_below:=fun _ h=>h
 K_of_M:=fun h=>h
 M_mono:=fun _ h=>h
 M_bound:=fun h=>h
 M_move:=fun _ h=>h
 M_lower:=fun _ h=>h
def upto {α:Type} (F:Kd α→Kd α) (sz:Nat) (E:List Nat):Nat→Kd α
 |0=>bot sz E
 |n+1=>F (upto F sz E n)
theorem C_get {α:Type} {d:Kd α} {w:World} {A:Option Addr} {n:Nat} {xs:List α} (h:d.C w A n xs) (z:α) (i:Int) (h0:0≤i) (h1:i<n):
 ∃ad c,A=some ad∧c.length=d.sz∧d.K w (xs.getD i.toNat z) c∧∀j u,c[j]? =some u→w.cell? (ad.add (i.toNat*d.sz+j))=some u:=ReadsRow.get_ h z i h0 h1
theorem DT {α:Type} {d:Kd α} {e base:Nat} {ok okp:Nat→Prop} {W w1:World} {v v1:Value} {xs:List α} {p:α} {inner cs:List Value} (h0:∀k,v.ownBlock=some k→ok k) (hr:Reps (d.M W base (fun k=>ok k∧some k≠v.ownBlock)) d.sz xs inner) (hp:d.M W base okp p cs) (hokp:∀k,okp k→ok k∧some k≠v.ownBlock) (hfresh:∀k,W.heap.size≤k→ok k)
  (hown:w1.ownsRow base e d.sz v1 (xs.length+1) (inner++cs)) (hg:W.grownBy w1 v.ownBlock) (hat:v1.ownBlock=v.ownBlock∨∃b,v1.ownBlock=some b∧W.heap.size≤b):d.R e w1 base ok v1 (xs++[p]):=by
 have hne:∀k,some k≠v.ownBlock→k<W.heap.size→some k≠v1.ownBlock:=by
  intro k hk hlt
  rcases hat with hat|⟨b,hb,hle⟩
  ·rw [hat]; exact hk
  ·rw [hb]
   intro he
   injection he with he
   omega
 have step:∀ {q:α} {c:List Value} {o:Nat→Prop},d.M W base o q c→(∀k,o k→ok k∧some k≠v.ownBlock)→d.M w1 base (fun k=>ok k∧some k≠v1.ownBlock) q c:=by
  intro q c o hq ho
  have h1:=d.M_move (w1:=w1) (fun k hk=>hg.block k hk.2.2.1 (ho k hk.1).2) (d.M_bound hq)
  exact d.M_mono (fun k hk=>⟨(ho k hk.1).1,hne k (ho k hk.1).2 hk.2.2.1⟩) h1
 refine ⟨fun k hk=> ?_,inner++cs,by rw [List.length_append,List.length_singleton]; exact hown,?_⟩
 ·rcases hat with hat|⟨b,hb,hle⟩
  ·exact h0 k (hat▸hk)
  ·rw [hb] at hk
   injection hk with hk
   exact hfresh k zI
 ·exact (hr.imp_ (fun _ _ hq=>step hq (fun _ hk=>hk))).snoc (step hp hokp) (d.K_len (d.K_of_M hp))
section
variable {P:Program} {ops:Array Oper} {rest:List Oper} {o:Oper} {a:Act} {Q:Exit→Act→World→Prop} {α:Type}
theorem R_append (d:Kd α) {w0 W:World} (base:Nat) (hgd:o.guard=none) (s x:Operand) (t e:TypeId) (z:Value) (bytes:Nat)
  (ho:o.op= .call {callee:= .builtin .append,args:= #[s,x],argTypes:= #[t,t]})
  (ht:P.underlying t=some (.slice e)) (hinfo:(P.info? e).map (fun i=>(i.zero,i.size,i.bytes))=some (some z,d.sz,bytes)) (hz:z.cells.size=d.sz) (hs0:0<d.sz) (hb0:0<bytes)
  (v:Value) (xs:List α) (p:α) (cs:List Value) (ok okp:Nat→Prop) (hs:a.eval s=v) (hx:a.eval x= .slice (some ⟨W.heap.size,0,none⟩) 1 1) (hp:d.M W base okp p cs) (hokp:∀k,okp k→ok k∧some k≠v.ownBlock) (hfresh:∀k,W.heap.size≤k→ok k)
  (HO:d.R e W base ok v xs) (HB:Below base w0 W) (hbase:base≤W.heap.size) (hl:(xs.length+1)*bytes≤140737488355328)
  (h:∀v1 w1,d.R e w1 base ok v1 (xs++[p])→Below base w0 w1→W.grownBy w1 v.ownBlock→(v1.ownBlock=v.ownBlock∨∃b,v1.ownBlock=some b∧W.heap.size≤b)→wpList P ops Q rest (a.put o.dst v1) w1):
  wpList P ops Q (o::rest) a (W.alloc (.cells cs.toArray e)):=by
 obtain ⟨h0,inner,hown,hr⟩:=HO
 refine Ce base hgd s x t e z d.sz bytes ho ht hinfo hz hs0 hb0 v xs.length inner cs hs hx (d.K_len (d.K_of_M hp)) (d.K_one (d.K_of_M hp)) hown HB hbase hl ?_
 intro v1 w1 hown1 hb1 hg1 hat1
 exact h v1 w1 (DT h0 hr hp hokp hfresh hown1 hg1 hat1) hb1 hg1 hat1
end
section
variable {P:Program} {ops:Array Oper} {o:Oper} {a:Act} {Q:Exit→Act→World→Prop} {Kc:Act→World→Prop} {α:Type}
theorem R_append_step (d:Kd α) {w0 W:World} (base:Nat) (hw:Region.wanted o (yielded ops a.tmps)=true) (s x:Operand) (t e:TypeId) (z:Value) (bytes:Nat)
  (ho:o.op= .call {callee:= .builtin .append,args:= #[s,x],argTypes:= #[t,t]})
  (ht:P.underlying t=some (.slice e)) (hinfo:(P.info? e).map (fun i=>(i.zero,i.size,i.bytes))=some (some z,d.sz,bytes)) (hz:z.cells.size=d.sz) (hs0:0<d.sz) (hb0:0<bytes)
  (v:Value) (xs:List α) (p:α) (cs:List Value) (ok okp:Nat→Prop) (hs:a.eval s=v) (hx:a.eval x= .slice (some ⟨W.heap.size,0,none⟩) 1 1) (hp:d.M W base okp p cs) (hokp:∀k,okp k→ok k∧some k≠v.ownBlock) (hfresh:∀k,W.heap.size≤k→ok k)
  (HO:d.R e W base ok v xs) (HB:Below base w0 W) (hbase:base≤W.heap.size) (hl:(xs.length+1)*bytes≤140737488355328)
  (h:∀v1 w1,d.R e w1 base ok v1 (xs++[p])→Below base w0 w1→W.grownBy w1 v.ownBlock→(v1.ownBlock=v.ownBlock∨∃b,v1.ownBlock=some b∧W.heap.size≤b)→Kc (a.put o.dst v1) w1):
  if Region.wanted o (yielded ops a.tmps)=true then Oper.wp P o a (W.alloc (.cells cs.toArray e)) Kc Q else Kc (a.put o.dst undef) (W.alloc (.cells cs.toArray e)):=by
 obtain ⟨h0,inner,hown,hr⟩:=HO
 refine Ck base hw s x t e z d.sz bytes ho ht hinfo hz hs0 hb0 v xs.length inner cs hs hx (d.K_len (d.K_of_M hp)) (d.K_one (d.K_of_M hp)) hown HB hbase hl ?_
 intro v1 w1 hown1 hb1 hg1 hat1
 exact h v1 w1 (DT h0 hr hp hokp hfresh hown1 hg1 hat1) hb1 hg1 hat1
end
theorem E4 {α:Type} {enc:α→Value} (xs:List α):Reps (fun (x:α) (cs:List Value)=>cs=[enc x]) 1 xs (encs enc xs):=by
 refine ⟨by simp [encs],fun j p hj=> ?_⟩
 obtain ⟨hl,hp⟩:=List.getElem?_eq_some_iff.1 hj
 have hl':j<(encs enc xs).length:=by rw [D7]; exact hl
 rw [Nat.mul_one,List.drop_eq_getElem_cons hl']
 simp [encs,hp]
theorem R_of_own {α:Type} {enc:α→Value} {h1:∀x,(enc x).oneCell'=true} {e:Nat} {w:World} {base:Nat} {ok:Nat→Prop} {v:Value} {xs:List α} (ho:w.ownsRow base e 1 v xs.length (encs enc xs)) (hok:∀k,v.ownBlock=some k→ok k):(scalar enc h1).R e w base ok v xs:=⟨hok,encs enc xs,ho,E4 xs⟩
theorem own_of_R {α:Type} {enc:α→Value} {h1:∀x,(enc x).oneCell'=true} {e:Nat} {w:World} {base:Nat} {ok:Nat→Prop} {v:Value} {xs:List α} (h:(scalar enc h1).R e w base ok v xs):w.ownsRow base e 1 v xs.length (encs enc xs):=by
 obtain ⟨_,inner,ho,hr⟩:=h
 have:inner=encs enc xs:=by
  apply List.ext_getElem?
  intro j
  rcases Nat.lt_or_ge j xs.length with hj|hj
  ·have h2:=hr.2 j _ (List.getElem?_eq_getElem hj)
   have hl:j<inner.length:=by have:=hr.1; simp [scalar] at this; omega
   have h3:(inner.drop (j*1)).take 1=[enc xs[j]]:=h2
   rw [Nat.mul_one,List.drop_eq_getElem_cons hl] at h3
   have h4:inner[j]=enc xs[j]:=by
    have h5:=congrArg List.head? h3
    rw [List.take_succ_cons] at h5
    exact Option.some.inj h5
   rw [List.getElem?_eq_getElem hl,h4]
   simp [encs,List.getElem?_eq_getElem hj]
  ·have h3:inner.length=xs.length:=by have:=hr.1; simp [scalar] at this; omega
   rw [List.getElem?_eq_none zI,List.getElem?_eq_none (by rw [D7]; omega)]
 rw [←this]
 exact ho
theorem C_of_reads {α:Type} {enc:α→Value} {d:α} {h1:∀x,(enc x).oneCell'=true} {w:World} {A:Option Addr} {n:Nat} {xs:List α} (h:ReadsOf enc d w A n xs):(scalar enc h1).C w A n xs:=by
 refine ⟨h.1,h.2.1,fun hn=> ?_⟩
 obtain ⟨ad,e,hc⟩:=h.2.2 hn
 refine ⟨ad,e,fun j p hj=>⟨[enc p],rfl,rfl,fun i u hu=> ?_⟩⟩
 obtain ⟨hl,hp⟩:=List.getElem?_eq_some_iff.1 hj
 have h2:=hc j (by have:=h.1; omega)
 rw [List.getD_eq_getElem?_getD,hj] at h2
 cases i with
 | zero=>
  have:enc p=u:=by simpa using hu
  subst this
  simpa [scalar] using h2
 |succ i=>simp at hu
theorem reads_of_C {α:Type} {enc:α→Value} {d:α} {h1:∀x,(enc x).oneCell'=true} {w:World} {A:Option Addr} {n:Nat} {xs:List α} (h:(scalar enc h1).C w A n xs):ReadsOf enc d w A n xs:=by
 refine ⟨h.1,h.2.1,fun hn=> ?_⟩
 obtain ⟨ad,e,hc⟩:=h.2.2 hn
 refine ⟨ad,e,fun j hj=> ?_⟩
 have hl:j<xs.length:=by have:=h.1; omega
 obtain ⟨c,_,hK,hcell⟩:=hc j _ (List.getElem?_eq_getElem hl)
 have hK':c=[enc xs[j]]:=hK
 subst hK'
 have:=hcell 0 _ rfl
 simpa [scalar,List.getD_eq_getElem?_getD,List.getElem?_eq_getElem hl] using this
end Kd
namespace Kd
structure Mono {α β:Type} (F:Kd α→Kd β):Prop where
 sz:∀d d':Kd α,d.sz=d'.sz→(F d).sz=(F d').sz
 K:∀d d':Kd α,d.sz=d'.sz→(∀w x cs,d.K w x cs→d'.K w x cs)→∀w x cs,(F d).K w x cs→(F d').K w x cs
 M:∀d d':Kd α,d.sz=d'.sz→(∀w base ok x cs,d.M w base ok x cs→d'.M w base ok x cs)→∀w base ok x cs,(F d).M w base ok x cs→(F d').M w base ok x cs
section
variable {α:Type} {F:Kd α→Kd α} {sz:Nat} {E:List Nat} {hs:∀n,(upto F sz E n).sz=sz} {hE:∀n q,q∈(upto F sz E n).E→q∈E}
end
end Kd
namespace Kd
theorem R_after {α:Type} {d:Kd α} {e base:Nat} {ok:Nat→Prop} {W w1:World} {u v v1:Value} {xs:List α} (h:d.R e W base (fun k=>ok k∧some k≠v.ownBlock) u xs) (hg:W.grownBy w1 v.ownBlock) (hat:v1.ownBlock=v.ownBlock∨∃b,v1.ownBlock=some b∧W.heap.size≤b):d.R e w1 base (fun k=>ok k∧some k≠v1.ownBlock) u xs:=by
 refine R_mono (R_move (R_bound h) (fun k hk=>hg.block k hk.2.2.1 hk.1.2)) (fun k hk=>⟨hk.1.1,?_⟩)
 rcases hat with hat|⟨b,hb,hle⟩
 ·rw [hat]; exact hk.1.2
 ·rw [hb]
  intro he
  injection he with he
  have:=hk.2.2.1
  omega
end Kd
namespace Kd
section
variable {α β:Type} {d:Kd α} {d':Kd β} {e e':Nat} {w w1 W:World} {base b b':Nat} {ok ok' okv oku:Nat→Prop} {v u:Value} {xs:List α} {ys:List β}
theorem R_alloc (h:d.R e w base ok v xs) (o:Obj):d.R e (w.alloc o) base ok v xs:=R_below h (AE (Below.refl _ _) o)
theorem R_drew (h:d.R e w base ok v xs):d.R e w.drew base ok v xs:=R_below h (CG (Below.refl _ _))
theorem R_drewN (h:d.R e w base ok v xs) (m:Nat):d.R e (w.drewN m) base ok v xs:=R_below h (AC (Below.refl _ _) m)
theorem C_alloc {A:Option Addr} {n:Nat} (h:d.C w A n xs) (o:Obj):d.C (w.alloc o) A n xs:=C_below h (AE (Below.refl _ _) o)
theorem C_drew {A:Option Addr} {n:Nat} (h:d.C w A n xs):d.C w.drew A n xs:=C_below h (CG (Below.refl _ _))
theorem C_drewN {A:Option Addr} {n:Nat} (h:d.C w A n xs) (m:Nat):d.C (w.drewN m) A n xs:=C_below h (AC (Below.refl _ _) m)
theorem C_nil (d:Kd α) (w:World):d.C w none ([]:List α).length []:=⟨rfl,by simp,fun h=>absurd h (Nat.lt_irrefl 0)⟩
theorem R_reads' {A:Option Addr} {n c:Nat} (h:d.R e w base ok (.slice A n c) xs):n=xs.length∧n≤c∧d.C w A xs.length xs:=by
 obtain ⟨A',c',he,hl,hr⟩:=Dx h
 injection he with h1 h2 h3
 subst h1
 exact ⟨h2,by omega,hr⟩
theorem R_lt (h:d.R e w base ok v xs):∀k,v.ownBlock=some k→k<w.heap.size:=by
 obtain ⟨inner,ho⟩:=F0 h
 exact FT ho
theorem R_base (h:d.R e w base ok v xs):∀k,v.ownBlock=some k→base≤k:=by
 obtain ⟨inner,ho⟩:=F0 h
 exact CR ho
theorem R_form (h:d.R e w base ok v xs) (hp:0<xs.length):∃g cap,v= .slice (some ⟨g,0,none⟩) xs.length cap∧base≤g∧g<w.heap.size∧∃cells,w.heap[g]? =some (.cells cells e (0,0)):=by
 obtain ⟨inner,ho⟩:=F0 h
 obtain ⟨g,cap,he,hb,hl⟩:=ho.form hp
 obtain ⟨cells,hc⟩:=CM ho g (by rw [he]; simp [Value.ownBlock])
 exact ⟨g,cap,he,hb,hl,cells,hc⟩
end
section
variable {w W:World} {A:Option Addr} {n:Nat}
theorem at_int {k:IntKind} {xs:List Int} (h:(Kd.int k).C w A n xs) (i:Int) (h0:0≤i) (h1:i<n):∃ad,A=some ad∧w.cell? (ad.add i.toNat)=some (.int k (rd xs i)):=
 ReadsOf.at_ (reads_of_C (enc:=Value.int k) (d:=(0:Int)) (h1:=fun _=>rfl) h) i h0 h1
theorem at_bool {xs:List Bool} (h:Kd.bool.C w A n xs) (i:Int) (h0:0≤i) (h1:i<n):∃ad,A=some ad∧w.cell? (ad.add i.toNat)=some (.bool (rdOf false xs i)):=
 ReadsOf.at_ (reads_of_C (enc:=Value.bool) (d:=false) (h1:=fun _=>rfl) h) i h0 h1
theorem at_string {xs:List ByteArray} (h:Kd.string.C w A n xs) (i:Int) (h0:0≤i) (h1:i<n):∃ad,A=some ad∧w.cell? (ad.add i.toNat)=some (.string (rdOf ByteArray.empty xs i)):=
 ReadsOf.at_ (reads_of_C (enc:=Value.string) (d:=ByteArray.empty) (h1:=fun _=>rfl) h) i h0 h1
variable {α:Type} {enc:α→Value} {h1:∀x,(enc x).oneCell'=true} {e base g cap:Nat} {ok:Nat→Prop} {xs:List α}
theorem R_cell (d:α) (h:(scalar enc h1).R e W base ok (.slice (some ⟨g,0,none⟩) xs.length cap) xs) (i:Int) (h0:0≤i) (hi:i<xs.length):W.cell? ⟨g,i.toNat,none⟩=some (enc (rdOf d xs i))∧W.frozen? ⟨g,i.toNat,none⟩=false:=F6 (own_of_R h) i h0 hi
theorem R_put (h:(scalar enc h1).R e W base ok (.slice (some ⟨g,0,none⟩) xs.length cap) xs) (i:Int) (x:α):(scalar enc h1).R e (W.setCell ⟨g,i.toNat,none⟩ (enc x)) base ok (.slice (some ⟨g,0,none⟩) xs.length cap) (xs.set i.toNat x)∧W.grownBy (W.setCell ⟨g,i.toNat,none⟩ (enc x)) (some g):=by
 obtain ⟨ho,hg⟩:=Do (own_of_R h) i x
 exact ⟨R_of_own (by rw [List.length_set]; exact ho) h.1,hg⟩
end
section
variable {P:Program} {ops:Array Oper} {rest:List Oper} {o:Oper} {a:Act} {Q:Exit→Act→World→Prop}
theorem event_run {W w1:World} {v:Value} (hgd:o.guard=none) (hrun:(execOp a.eval o).run P W= .ok (.value v) w1) (h:wpList P ops Q rest (a.put o.dst v) w1):wpList P ops Q (o::rest) a W:=by
 refine wpList_plain hgd fun K hK=> ?_
 unfold Oper.wp
 rw [hrun]
 exact hK _ _ h
variable {α:Type}
theorem R_lit (d:Kd α) {w0 W:World} (base e:Nat) (hgd:o.guard=none) {N:Tmp} (_hd:o.dst=some N) {xs:List α} {inner:List Value} {ok okp:Nat→Prop}
  (hrun:(execOp a.eval o).run P W= .ok (.value (.slice (some ⟨W.heap.size,0,none⟩) xs.length xs.length)) (W.alloc (.cells inner.toArray e)))
  (hrep:Reps (d.M W base okp) d.sz xs inner) (hok:∀k,okp k→ok k) (hfresh:ok W.heap.size) (HB:Below base w0 W) (hbase:base≤W.heap.size) (hm:xs.length≤9223372036854775807)
  (h:∀v1 w1,d.R e w1 base ok v1 xs→Below base w0 w1→W.grownBy w1 none→(∃b,v1.ownBlock=some b∧W.heap.size≤b)→wpList P ops Q rest (a.put o.dst v1) w1):wpList P ops Q (o::rest) a W:=by
 refine event_run hgd hrun (h _ _ ⟨fun k hk=> ?_,inner,?_,?_⟩ (HB.alloc hbase _) (World.grownBy_alloc W _ none) ⟨W.heap.size,by simp [Value.ownBlock],Nat.le_refl _⟩)
 ·have:W.heap.size=k:=by simpa [Value.ownBlock] using hk
  subst this
  exact hfresh
 ·have h2:=World.ownsRow_lit (base:=base) (e:=e) (size:=d.sz) W inner.toArray xs.length hbase (by simpa [maxLen] using hm) (by simpa using hrep.1)
  simpa using h2
 ·refine hrep.imp_ (fun p c hp=>d.M_mono (fun k hk=>⟨hok k hk.1,fun he=> ?_⟩) (M_below (d.M_bound hp) (AE (Below.refl _ _) _)))
  have h3:k=W.heap.size:=by simpa [Value.ownBlock] using he
  have:=hk.2.2.1
  omega
theorem F4 {α:Type} {R:α→List Value→Prop} {z:Value} {size:Nat} {z0:α} (hz:z.cells.size=size) (hs:0<size) (h0:R z0 z.cells.toList) (m:Nat):Reps R size (List.replicate m z0) (madeCells z.cells (m*size)).toList:=by
 refine ⟨by simp [size_madeCells],fun j p hj=> ?_⟩
 obtain ⟨hjl,hp⟩:=List.getElem?_eq_some_iff.1 hj
 have hjm:j<m:=by simpa using hjl
 have hp':z0=p:=by simpa using hp
 subst hp'
 have hle:j*size+size≤m*size:=by rw [←Nat.succ_mul]; exact Nat.mul_le_mul_right _ hjm
 have:((madeCells z.cells (m*size)).toList.drop (j*size)).take size=z.cells.toList:=by
  apply List.ext_getElem
  ·simp [size_madeCells,hz]
   omega
  ·intro i h1 h2
   have hi:i<size:=by rw [Array.length_toList,hz] at h2; exact h2
   have hmod:(j*size+i)%size=i:=by
    rw [Nat.mul_comm,Nat.mul_add_mod]
    exact Nat.mod_eq_of_lt hi
   simp [madeCells,hz,hmod]
   rw [getElem!_pos z.cells i zI]
 rw [this]
 exact h0
theorem R_make (d:Kd α) {w0 W:World} (base e:Nat) (hgd:o.guard=none) {N:Tmp} (hd:o.dst=some N) (t:TypeId) (x y:Operand) (ho:o.op= .makeSlice t x y) (n:Int) (hx:a.eval x= .int .i64 n) (hy:a.eval y= .int .i64 n)
  (ht:P.underlying t=some (.slice e)) (z:Value) (bytes:Nat) (hinfo:(P.info? e).map (fun i=>(i.zero,i.size,i.bytes))=some (some z,d.sz,bytes)) (hz:z.cells.size=d.sz) (hs0:0<d.sz) (hb0:0<bytes)
  (z0:α) {ok okp:Nat→Prop} (hzero:d.M W base okp z0 z.cells.toList) (hok:∀k,okp k→ok k) (hfresh:ok W.heap.size) (h0:0≤n) (hl:n.toNat*bytes≤281474976710656) (HB:Below base w0 W) (hbase:base≤W.heap.size)
  (h:∀v1 w1,d.R e w1 base ok v1 (List.replicate n.toNat z0)→Below base w0 w1→W.grownBy w1 none→(∃b,v1.ownBlock=some b∧W.heap.size≤b)→wpList P ops Q rest (a.put o.dst v1) w1):wpList P ops Q (o::rest) a W:=by
 obtain ⟨m,rfl⟩:=Int.eq_ofNat_of_zero_le h0
 simp only [Int.toNat_natCast] at hl h
 obtain ⟨i0,hi,hzz⟩:=Option.map_eq_some_iff.1 hinfo
 simp only [Prod.mk.injEq] at hzz
 obtain ⟨hz0,hz1,hz2⟩:=hzz
 have hm:m≤281474976710656:=Nat.le_trans (Nat.le_mul_of_pos_right _ hb0) hl
 have hr:=run_make (P:=P) W t e i0 z ht hi hz0 .i64 .i64 (m:Int) (m:Int) zI zI
  (by
   have h3:((i0.bytes*m:Nat):Int)≤281474976710656:=by rw [hz2,Nat.mul_comm]; omega
   rwa [Int.natCast_mul] at h3) zI
 simp only [Int.toNat_natCast] at hr
 rw [hz1] at hr
 refine R_lit d base e hgd hd (xs:=List.replicate m z0) (inner:=(madeCells z.cells (m*d.sz)).toList) (okp:=okp) (ok:=ok) ?_ (F4 hz hs0 hzero m) hok hfresh HB hbase (by simp; omega) h
 simp [execOp,ho,hx,hy,hr]
end
end Kd
section
variable {P:Program}
theorem Fo (t e:TypeId) (kh:IntKind) {i:TypeInfo} (ht:P.underlying t=some (.slice e)) (hi:P.info? e=some i) (A:Option Addr) (n c:Nat) (j:Int) (h0:0≤j) (hm:j≤n) (hc:n≤c):
  ∀W:World,(Instr.slice t (.slice A n c) none (some (.int kh j)) none).run P W= .ok (.slice A j.toNat c) W:=by
 intro W
 have hel:P.elem t=e:=by simp [Program.elem,ht]
 have hu:P.underlying t=some (.slice (P.elem t)):=by rw [hel]; exact ht
 have ha:(A.map fun x=>x.add 0)=A:=by cases A<;>simp [Addr.add]
 rw [run_slice_h W t A n c hu kh j h0 zI,hel]
 simp [sizeOf,typeInfo,hi,sliced,Result.andThen,ha]
end
def QRow (w:World) (base:Nat) (e:TypeId) (size:Nat) (v:Value) (n:Nat) (xs:List Value):Prop:=
 xs.length=n*size∧
 ((n=0∧∃A,v= .slice A 0 0∧∀a,A=some a→base≤a.block∧∃cur,w.heap[a.block]? =some (.cells cur e (0,0)))∨
  ∃g off cap cur,v= .slice (some ⟨g,off*size,none⟩) n cap∧base≤g∧w.heap[g]? =some (.cells cur e (0,0))∧n≤cap∧off+cap≤maxLen∧cur.size=(off+cap)*size∧(cur.toList.drop (off*size)).take (n*size)=xs)
section
variable {w w1:World} {base n size:Nat} {e:TypeId} {v:Value} {xs:List Value}
theorem FR (h:w.ownsRow base e size v n xs):QRow w base e size v n xs:=by
 obtain ⟨h1,h2⟩:=h
 refine ⟨h1,?_⟩
 rcases h2 with ⟨rfl,h0⟩|⟨g,cap,cur,rfl,hb,hh,hnc,hcm,hcs,ht⟩
 ·exact .inl ⟨h0,none,rfl,fun a ha=>by cases ha⟩
 ·exact .inr ⟨g,0,cap,cur,by rw [Nat.zero_mul],hb,hh,hnc,by rw [Nat.zero_add]; exact hcm,by rw [Nat.zero_add]; exact hcs,by rw [Nat.zero_mul,List.drop_zero]; exact ht⟩
theorem Co {g:Nat} :∀(vs:List Value) (o:Nat) {w:World} (k:Nat),k≠g→(w.setCells g o vs).heap[k]? =w.heap[k]?
 |[],_,_,_,_=>rfl
 | v::r,o,w,k,hk=>by
  rw [World.setCells,Co r (o+1) k hk]
  exact Below.heap_setCell w ⟨g,o,none⟩ v k hk
theorem Ca (g:Nat):∀(vs:List Value) (o:Nat) (w:World),(w.setCells g o vs).os=w.os∧(w.setCells g o vs).tape=w.tape∧(w.setCells g o vs).output=w.output∧(w.setCells g o vs).heap.size=w.heap.size
 |[],_,_=>⟨rfl,rfl,rfl,rfl⟩
 | v::r,o,w=>by
  obtain ⟨h1,h2,h3,h4⟩:=Ca g r (o+1) (w.setCell ⟨g,o,none⟩ v)
  rw [World.setCells]
  exact ⟨h1,h2,h3,by rw [h4]; simp [World.setCell]⟩
theorem Cn {g:Nat} {e:TypeId} :∀(vs:List Value) (o:Nat) (w:World) (cur:Array Value),w.heap[g]? =some (.cells cur e (0,0))→o+vs.length≤cur.size→
  ∃cur',(w.setCells g o vs).heap[g]? =some (.cells cur' e (0,0))∧cur'.size=cur.size∧cur'.toList=cur.toList.take o++vs++cur.toList.drop (o+vs.length)
 |[],o,w,cur,h,_=>⟨cur,h,rfl,by simp⟩
 | v::r,o,w,cur,h,hl=>by
  have h2:=Ey h o v
  simp only [List.length_cons] at hl
  obtain ⟨cur',h3,h4,h5⟩:=Cn r (o+1) (w.setCell ⟨g,o,none⟩ v) _ h2 (by simp; omega)
  refine ⟨cur',h3,by rw [h4]; simp,?_⟩
  rw [h5,Array.toList_setIfInBounds]
  have ho:o<cur.toList.length:=by rw [Array.length_toList]; omega
  rw [List.take_set,List.drop_set_of_lt zI]
  simp only [List.length_cons]
  rw [show o+1+r.length=o+(r.length+1) by omega]
  congr 1
  rw [List.take_succ_eq_append_getElem ho,List.set_append_right _ _ (by rw [List.length_take]; omega)]
  have ho':o<cur.size:=by omega
  simp [Nat.min_eq_left (Nat.le_of_lt ho')]
end
section
variable {P:Program}
end
namespace Kd
def Q {α:Type} (d:Kd α) (e:Nat) (w:World) (base:Nat) (ok:Nat→Prop) (v:Value) (xs:List α):Prop:=
 (∀k,v.ownBlock=some k→ok k)∧∃inner,QRow w base e d.sz v xs.length inner∧Reps (d.M w base (fun k=>ok k∧some k≠v.ownBlock)) d.sz xs inner
section
variable {α:Type} {d:Kd α} {e:Nat} {w w1 W:World} {base:Nat} {ok ok':Nat→Prop} {v:Value} {xs:List α}
theorem Q_of_R (h:d.R e w base ok v xs):d.Q e w base ok v xs:=by
 obtain ⟨h0,inner,ho,hr⟩:=h
 exact ⟨h0,inner,FR ho,hr⟩
theorem Q_nil (d:Kd α) (e:Nat) (w:World) (base:Nat) (ok:Nat→Prop):d.Q e w base ok (.slice none 0 0) []:=Q_of_R (R_nil d e w base ok)
end
section
variable {P:Program} {ops:Array Oper} {rest:List Oper} {o:Oper} {a:Act} {Q':Exit→Act→World→Prop} {Kc:Act→World→Prop} {α:Type}
end
end Kd
namespace Kd
section
variable {α:Type} {d:Kd α} {e e':Nat} {w w1 W:World} {base:Nat} {ok:Nat→Prop} {u v:Value} {xs:List α}
theorem R_typed (h:d.R e w base ok v xs):∀k,v.ownBlock=some k→∃cells,w.heap[k]? =some (.cells cells e (0,0)):=by
 obtain ⟨inner,ho⟩:=F0 h
 exact fun k hk=>CM ho k hk
theorem R_over' (h:d.R e W base ok u xs) (hty:∀k,v.ownBlock=some k→∃cells,W.heap[k]? =some (.cells cells e' (0,0))) (ht:∀q,q∈e::d.E→q≠e') (hg:W.grownBy w1 v.ownBlock):d.R e w1 base ok u xs:=by
 refine R_mono (R_move (R_bound h) (fun k hk=>hg.block k hk.2.2.1 (fun he=> ?_))) (fun _ hk=>hk.1)
 obtain ⟨_,_,_,q,hq,cells,hc⟩:=hk
 obtain ⟨cells',hc'⟩:=hty k he.symm
 rw [hc] at hc'
 injection hc' with hc'
 injection hc' with _ hc'
 exact ht q hq hc'
theorem R_elder' (hu:d.R e W base ok u xs) (hbase:∀k,v.ownBlock=some k→W.heap.size≤k) (hb:Below W.heap.size W w1):d.R e w1 base (fun k=>ok k∧some k≠v.ownBlock) u xs:=
 R_mono (R_move (R_bound hu) (fun k hk=>hb.block k hk.2.2.1)) (fun k hk=>⟨hk.1,fun he=>by have:=hbase k he.symm; have:=hk.2.2.1; omega⟩)
theorem R_new' (h:d.R e w1 W.heap.size ok v xs) (hlt:∀k,u.ownBlock=some k→k<W.heap.size):d.R e w1 W.heap.size (fun k=>ok k∧some k≠u.ownBlock) v xs:=
 R_mono (R_bound h) (fun k hk=>⟨hk.1,fun he=>by have:=hlt k he.symm; have:=hk.2.1; omega⟩)
theorem fresh' (hlt:∀k,u.ownBlock=some k→k<W.heap.size):∀k,W.heap.size≤k→some k≠u.ownBlock:=fun k hk he=>by have:=hlt k he.symm; omega
end
end Kd
theorem Cp {α:Type} (a seg:List α) (o:Nat) (h:o+seg.length≤a.length) (q:Nat):
  (a.take o++seg++a.drop (o+seg.length))[q]? =if q<o then a[q]? else if q<o+seg.length then seg[q-o]? else a[q]? :=by
 have hl:(a.take o).length=o:=by rw [List.length_take]; omega
 rw [List.append_assoc]
 by_cases h1:q<o
 ·rw [if_pos h1,List.getElem?_append_left zI,List.getElem?_take,if_pos h1]
 ·rw [if_neg h1,List.getElem?_append_right zI,hl]
  by_cases h2:q<o+seg.length
  ·rw [if_pos h2,List.getElem?_append_left zI]
  ·rw [if_neg h2,List.getElem?_append_right zI,List.getElem?_drop]
   congr 1
   omega
namespace Kd
section
variable {α:Type} {d:Kd α} {e base g n cap:Nat} {ok okp:Nat→Prop} {W:World} {xs:List α}
theorem R_elem (h:d.R e W base ok (.slice (some ⟨g,0,none⟩) n cap) xs) (z:α) (i:Int) (h0:0≤i) (h1:i<n):
  ∃c,c.length=d.sz∧d.M W base (fun k=>ok k∧k≠g) (xs.getD i.toNat z) c∧(∀j u,c[j]? =some u→W.cell? ⟨g,i.toNat*d.sz+j,none⟩=some u)∧∀j,W.frozen? ⟨g,i.toNat*d.sz+j,none⟩=false:=by
 obtain ⟨hn,hnc,hC⟩:=R_reads' h
 obtain ⟨_,inner,ho,hr⟩:=h
 have hil:i.toNat<xs.length:=by omega
 have hseg:i.toNat*d.sz+d.sz≤inner.length:=by rw [hr.1,←Nat.succ_mul]; exact Nat.mul_le_mul_right _ hil
 have hM:=hr.2 i.toNat _ (List.getElem?_eq_getElem hil)
 refine ⟨(inner.drop (i.toNat*d.sz)).take d.sz,by rw [List.length_take,List.length_drop]; omega,?_,fun j u hu=> ?_,fun j=> ?_⟩
 ·rw [List.getD_eq_getElem?_getD,List.getElem?_eq_getElem hil]
  exact d.M_mono (fun k hk=>⟨hk.1,fun he=>hk.2 (by rw [he]; simp [Value.ownBlock])⟩) hM
 ·rw [List.getElem?_take] at hu
  split at hu
  ·rw [List.getElem?_drop] at hu
   have:=ho.cells (g:=g) (by simp [Value.ownBlock]) _ u hu
   rwa [CO] at this
  ·cases hu
 ·obtain ⟨cells,hc⟩:=CM ho g (by simp [Value.ownBlock])
  exact AJ hc _
theorem R_seg (h:d.R e W base ok (.slice (some ⟨g,0,none⟩) n cap) xs) (i:Int) (h0:0≤i) (h1:i<n) {c seg:List Value} {j:Nat} (hcl:c.length=d.sz) (hcc:∀j u,c[j]? =some u→W.cell? ⟨g,i.toNat*d.sz+j,none⟩=some u)
  (hj:j+seg.length≤d.sz) {x':α} (hM:d.M W base okp x' (c.take j++seg++c.drop (j+seg.length))) (hokp:∀k,okp k→ok k∧k≠g):
  d.R e (W.setCells g (i.toNat*d.sz+j) seg) base ok (.slice (some ⟨g,0,none⟩) n cap) (xs.set i.toNat x')∧W.grownBy (W.setCells g (i.toNat*d.sz+j) seg) (some g):=by
 obtain ⟨hn,hnc,_⟩:=R_reads' h
 obtain ⟨hok,inner,ho,hr⟩:=h
 have hil:i.toNat<xs.length:=by omega
 have hseg:i.toNat*d.sz+d.sz≤inner.length:=by rw [hr.1,←Nat.succ_mul]; exact Nat.mul_le_mul_right _ hil
 have hin:inner.length=n*d.sz:=by rw [hr.1,hn]
 obtain ⟨ho1,ho2⟩:=ho
 rcases ho2 with ⟨hv,_⟩|⟨g',cap',cur,hv,hb,hh,hnc',hcm,hcs,ht⟩
 ·cases hv
 injection hv with ha _ hc
 injection ha with ha
 injection ha with hg
 subst hg; subst hc
 have hfit:i.toNat*d.sz+j+seg.length≤cur.size:=by
  have:n*d.sz≤cap*d.sz:=Nat.mul_le_mul_right _ hnc
  omega
 obtain ⟨cur',h3,h4,h5⟩:=Cn seg (i.toNat*d.sz+j) W cur hh hfit
 obtain ⟨s1,s2,s3,s4⟩:=Ca g seg (i.toNat*d.sz+j) W
 have hfar:∀k,k≠g→(W.setCells g (i.toNat*d.sz+j) seg).heap[k]? =W.heap[k]? :=fun k hk=>Co seg _ k hk
 have hcin:∀q,q<d.sz→c[q]? =inner[i.toNat*d.sz+q]? :=by
  intro q hq
  have hq':q<c.length:=by omega
  have h6:=hcc q _ (List.getElem?_eq_getElem hq')
  rw [cell_of_row W g _ cur e (0,0) hh] at h6
  rw [List.getElem?_eq_getElem hq',←h6,←ht,List.getElem?_take,if_pos (by rw [←hn]; omega),Array.getElem?_toList]
 refine ⟨⟨hok,inner.take (i.toNat*d.sz+j)++seg++inner.drop (i.toNat*d.sz+j+seg.length),⟨?_,.inr ⟨g,cap,cur',by rw [List.length_set,hn],hb,h3,by rw [List.length_set,←hn]; exact hnc,hcm,by rw [h4,hcs],?_⟩⟩,?_⟩,
  ⟨s1,s2,s3,by rw [s4]; exact Nat.le_refl _,fun k _ hk=>hfar k (fun he=>hk (by rw [he]))⟩⟩
 ·rw [List.length_set]
  simp only [List.length_append,List.length_take,List.length_drop]
  rw [hr.1] at hseg ⊢
  omega
 ·rw [List.length_set,←hn]
  apply List.ext_getElem?
  intro q
  rw [List.getElem?_take,h5]
  rw [Cp cur.toList seg (i.toNat*d.sz+j) (by rw [Array.length_toList]; omega) q,Cp inner seg (i.toNat*d.sz+j) zI q]
  have hcur:∀q,q<n*d.sz→cur.toList[q]? =inner[q]? :=by
   intro q hq
   rw [←ht,List.getElem?_take,if_pos (by rw [←hn]; exact hq)]
  by_cases hq:q<n*d.sz
  ·rw [if_pos hq,hcur q hq]
  ·rw [if_neg hq,if_neg zI,if_neg zI,List.getElem?_eq_none zI]
 ·refine ⟨?_, fun m p hm=> ?_⟩
  ·rw [List.length_set]
   simp only [List.length_append,List.length_take,List.length_drop]
   rw [hr.1] at hseg ⊢
   omega
  ·have hml:m<xs.length:=by
    have:=(List.getElem?_eq_some_iff.1 hm).1
    rwa [List.length_set] at this
   have hmfit:m*d.sz+d.sz≤inner.length:=by rw [hr.1,←Nat.succ_mul]; exact Nat.mul_le_mul_right _ hml
   have hgo:some g=(Value.slice (some ⟨g,0,none⟩) n cap).ownBlock:=by simp [Value.ownBlock]
   by_cases hmi:m=i.toNat
   ·subst hmi
    rw [List.getElem?_set_self zI] at hm
    injection hm with hm
    subst hm
    have hcells:((inner.take (i.toNat*d.sz+j)++seg++inner.drop (i.toNat*d.sz+j+seg.length)).drop (i.toNat*d.sz)).take d.sz=c.take j++seg++c.drop (j+seg.length):=by
     apply List.ext_getElem?
     intro q
     rw [List.getElem?_take,List.getElem?_drop,Cp inner seg _ zI,Cp c seg j zI q]
     by_cases hq:q<d.sz
     ·rw [if_pos hq,hcin q hq]
      by_cases hq1:q<j
      ·rw [if_pos zI,if_pos hq1]
      ·rw [if_neg zI,if_neg hq1]
       by_cases hq2:q<j+seg.length
       ·rw [if_pos zI,if_pos hq2]
        congr 1
        omega
       ·rw [if_neg zI,if_neg hq2]
     ·rw [if_neg hq,if_neg zI,if_neg zI,List.getElem?_eq_none zI]
    rw [hcells]
    refine d.M_mono (fun k hk=> ?_) (d.M_move (w1:=W.setCells g (i.toNat*d.sz+j) seg) (fun k hk=>hfar k (hokp k hk).2) hM)
    exact ⟨(hokp k hk).1,fun he=>(hokp k hk).2 (by rw [←hgo] at he; injection he)⟩
   ·rw [List.getElem?_set_ne zI] at hm
    have hold:=hr.2 m p hm
    have hcells:((inner.take (i.toNat*d.sz+j)++seg++inner.drop (i.toNat*d.sz+j+seg.length)).drop (m*d.sz)).take d.sz=(inner.drop (m*d.sz)).take d.sz:=by
     apply List.ext_getElem?
     intro q
     rw [List.getElem?_take,List.getElem?_take,List.getElem?_drop,List.getElem?_drop,Cp inner seg _ zI]
     by_cases hq:q<d.sz
     ·rw [if_pos hq,if_pos hq]
      rcases Nat.lt_or_gt_of_ne hmi with hlt|hgt
      ·have:m*d.sz+d.sz≤i.toNat*d.sz:=by rw [←Nat.succ_mul]; exact Nat.mul_le_mul_right _ hlt
       rw [if_pos zI]
      ·have:i.toNat*d.sz+d.sz≤m*d.sz:=by rw [←Nat.succ_mul]; exact Nat.mul_le_mul_right _ hgt
       rw [if_neg zI,if_neg zI]
     ·rw [if_neg hq,if_neg hq]
    rw [hcells]
    refine d.M_move (fun k hk=>hfar k (fun he=>hk.2 (by rw [he]; exact hgo))) hold
end
end Kd
namespace Kd
section
variable {α:Type} {F:Kd α→Kd α} {sz:Nat} {E:List Nat} {hs:∀n,(upto F sz E n).sz=sz} {hE:∀n q,q∈(upto F sz E n).E→q∈E}
end
end Kd
namespace Kd
theorem E5 {α:Type} {R:α→List Value→Prop} {size:Nat} {ps qs:List α} {cs ds:List Value} (h:Reps R size ps cs) (h':Reps R size qs ds):Reps R size (ps++qs) (cs++ds):=by
 refine ⟨by rw [List.length_append,List.length_append,h.1,h'.1,Nat.add_mul],fun j p hj=> ?_⟩
 rcases Nat.lt_or_ge j ps.length with hlt|hge
 ·rw [List.getElem?_append_left hlt] at hj
  have hle:j*size+size≤cs.length:=by rw [h.1,←Nat.succ_mul]; exact Nat.mul_le_mul_right _ hlt
  rw [List.drop_append_of_le_length zI,List.take_append_of_le_length (by rw [List.length_drop]; omega)]
  exact h.2 j p hj
 ·rw [List.getElem?_append_right hge] at hj
  have h2:=h'.2 (j-ps.length) p hj
  have hle:ps.length*size≤j*size:=Nat.mul_le_mul_right _ hge
  rw [List.drop_append,List.drop_eq_nil_of_le (by rw [h.1]; exact hle),List.nil_append,h.1,←Nat.sub_mul]
  exact h2
section
variable {P:Program} {ops:Array Oper} {rest:List Oper} {o:Oper} {a:Act} {Q:Exit→Act→World→Prop} {α:Type}
theorem R_append_rows (d:Kd α) {Rr:α→List Value→Prop} {w0 W:World} (base:Nat) (hgd:o.guard=none) (s x:Operand) (t e:TypeId) (z:Value) (bytes:Nat)
  (ho:o.op= .call {callee:= .builtin .append,args:= #[s,x],argTypes:= #[t,t]})
  (ht:P.underlying t=some (.slice e)) (hinfo:(P.info? e).map (fun i=>(i.zero,i.size,i.bytes))=some (some z,d.sz,bytes)) (hz:z.cells.size=d.sz) (hs0:0<d.sz) (hb0:0<bytes)
  (v:Value) (xs ys:List α) (A:Option Addr) (m c:Nat) (ok okp:Nat→Prop) (hs:a.eval s=v) (hx:a.eval x= .slice A m c)
  (HO:d.R e W base ok v xs) (HR:ReadsRow Rr d.sz W A m ys) (hKM:∀x cs,Rr x cs→d.M W base okp x cs) (hokp:∀k,okp k→ok k∧some k≠v.ownBlock) (hfresh:∀k,W.heap.size≤k→ok k)
  (HB:Below base w0 W) (hbase:base≤W.heap.size) (hl:(xs.length+m)*bytes≤140737488355328)
  (h:∀v1 w1,d.R e w1 base ok v1 (xs++ys)→Below base w0 w1→W.grownBy w1 v.ownBlock→(v1.ownBlock=v.ownBlock∨∃b,v1.ownBlock=some b∧W.heap.size≤b)→wpList P ops Q rest (a.put o.dst v1) w1):
  wpList P ops Q (o::rest) a W:=by
 obtain ⟨i0,hi,hzz⟩:=Option.map_eq_some_iff.1 hinfo
 simp only [Prod.mk.injEq] at hzz
 obtain ⟨hz0,hz1,hz2⟩:=hzz
 have hm:ys.length=m:=HR.1
 have hlen:xs.length+m≤140737488355328:=Nat.le_trans (Nat.le_mul_of_pos_right _ hb0) hl
 obtain ⟨hok,inner,hown,hr⟩:=HO
 have hrun:∃v1 w1,(Builtin.append_ #[t,t] o.type #[v,.slice A m c]).run P W= .ok v1 w1∧d.R e w1 base ok v1 (xs++ys)∧W.grownBy w1 v.ownBlock∧(v1.ownBlock=v.ownBlock∨∃b,v1.ownBlock=some b∧W.heap.size≤b):=by
  rcases A with _|ad
  ·have h0:m=0:=by
    rcases Nat.eq_zero_or_pos m with h0|h0
    ·exact h0
    ·obtain ⟨ad,h,_⟩:=HR.2.2 h0
     cases h
   subst h0
   obtain rfl:ys=[]:=List.eq_nil_of_length_eq_zero hm
   refine ⟨v,W,?_,by rw [List.append_nil]; exact ⟨hok,inner,hown,hr⟩,World.grownBy.refl W _,.inl rfl⟩
   rcases hown.2 with ⟨rfl,hn⟩|⟨g,cap,cur,rfl,_,_,hnc,_⟩
   ·simp [Builtin.append_,run_underlying ht,sizeOf,typeInfo,hi,Builtin.lenOf,Builtin.firstCells]
   ·simp [Builtin.append_,run_underlying ht,sizeOf,typeInfo,hi,Builtin.lenOf,Builtin.firstCells,hnc,storeCells]
  ·obtain ⟨news,hnr,hnc⟩:=ReadsRow.inner_ HR
   have hnM:Reps (d.M W base okp) d.sz ys news:=hnr.imp_ (fun p c hp=>hKM p c hp)
   have hone:∀u∈news,u.oneCell'=true:=by
    intro u hu
    obtain ⟨q,hq,rfl⟩:=List.mem_iff_getElem.1 hu
    have hql:q/d.sz<ys.length:=by
     rw [Nat.div_lt_iff_lt_mul hs0]
     rw [←hnM.1]
     exact hq
    have hc:=hnM.2 (q/d.sz) _ (List.getElem?_eq_getElem hql)
    refine d.K_one (d.K_of_M hc) _ ?_
    rw [List.mem_iff_getElem?]
    refine ⟨q%d.sz,?_⟩
    rw [List.getElem?_take,if_pos (Nat.mod_lt _ hs0),List.getElem?_drop,Nat.mul_comm,Nat.div_add_mod,List.getElem?_eq_getElem hq]
   obtain ⟨v1,w1,hrun,h2,hg,_,hat⟩:=run_append_own_at (P:=P) W base t o.type e i0 z d.sz bytes ht hi hz0 hz1 hz2 hz hs0 v xs.length inner hown ad m c news (by rw [hnM.1,hm]) hnc hone (by simp only [maxLen]; omega) hl hbase
   have hat':v1.ownBlock=v.ownBlock∨∃b,v1.ownBlock=some b∧W.heap.size≤b:=by
    rcases hat with hat|hat
    ·exact .inl hat
    ·exact .inr ⟨_,hat,Nat.le_refl _⟩
   have hne:∀k,some k≠v.ownBlock→k<W.heap.size→some k≠v1.ownBlock:=by
    intro k hk hlt
    rcases hat' with hat|⟨b,hb,hle⟩
    ·rw [hat]; exact hk
    ·rw [hb]
     intro he
     injection he with he
     omega
   have step:∀ {q:α} {c:List Value} {o:Nat→Prop},d.M W base o q c→(∀k,o k→ok k∧some k≠v.ownBlock)→d.M w1 base (fun k=>ok k∧some k≠v1.ownBlock) q c:=by
    intro q c o hq ho
    have h1:=d.M_move (w1:=w1) (fun k hk=>hg.block k hk.2.2.1 (ho k hk.1).2) (d.M_bound hq)
    exact d.M_mono (fun k hk=>⟨(ho k hk.1).1,hne k (ho k hk.1).2 hk.2.2.1⟩) h1
   refine ⟨v1,w1,hrun,⟨fun k hk=> ?_,inner++news,by rw [List.length_append,hm]; exact h2,E5 (hr.imp_ (fun _ _ hq=>step hq (fun _ hk=>hk))) (hnM.imp_ (fun _ _ hq=>step hq hokp))⟩,hg,hat'⟩
   rcases hat' with hat|⟨b,hb,hle⟩
   ·exact hok k (hat▸hk)
   ·rw [hb] at hk
    injection hk with hk
    exact hfresh k zI
 obtain ⟨v1,w1,hr1,h1,hg,hat⟩:=hrun
 refine wpList_plain hgd fun K hK=> ?_
 unfold Oper.wp execOp
 simp only [ho,resolve,invoke,builtin,Sem.run_bind,Sem.run_pure,Result.andThen_ok,List.map_toArray,List.map_cons,List.map_nil,hs,hx,hr1]
 exact hK _ _ (h v1 w1 h1 (HB.grown hg hbase (CR hown)) hg hat)
end
end Kd
namespace Kd
section
variable {P:Program} {ops:Array Oper} {rest:List Oper} {o:Oper} {a:Act} {Q:Exit→Act→World→Prop} {α:Type}
end
end Kd
theorem add_add (a:Addr) (i j:Nat):(a.add i).add j=a.add (i+j):=by
 unfold Addr.add
 by_cases h1:i=0<;>by_cases h2:j=0<;>simp [h1,h2,Nat.add_assoc]
namespace Kd
section
variable {α:Type} {k:Kd α} {w:World} {A:Option Addr} {xs:List α} {m c:Nat}
theorem C_take (h:k.C w A xs.length xs) (hm:m≤xs.length):k.C w A (xs.take m).length (xs.take m):=by
 have hl:(xs.take m).length=m:=by rw [List.length_take]; omega
 refine ⟨rfl,by rw [hl]; have:=h.2.1; omega,fun hp=> ?_⟩
 obtain ⟨ad,e,hc⟩:=h.2.2 zI
 refine ⟨ad,e,fun j p hj=>hc j p ?_⟩
 rw [List.getElem?_take] at hj
 split at hj
 ·exact hj
 ·cases hj
end
end Kd
section
variable {P:Program}
end
theorem AT {w W:World} (h:Below w.heap.size w W):w.heap.size≤W.heap.size:=h.size
theorem AO {w W w2:World} (h:Below w.heap.size w W) (k:Below W.heap.size W w2):Below w.heap.size w w2:=C5 h h.size k
theorem ReadsInt.nil (W:World) (k:IntKind):ReadsInt W k none ([]:List Int).length []:=⟨rfl,by simp,fun h=>absurd h (Nat.lt_irrefl 0)⟩
theorem ReadsInt.ofRow {k:IntKind} {w:World} {a:Option Addr} {len cap:Nat} {zs:List Int} (h:(a=none∧len=0∧cap=0∧zs=[])∨∃x,a=some x∧len≤cap∧cap≤maxLen∧zs.length=cap∧(∀i,i<zs.length→w.cell? (x.add i)=some (.int k (zs.getD i 0)))∧∀n∈zs,(Lit.int k n).wf=true):
  ∃l:List Int,len=l.length∧ReadsInt w k a l.length l∧l.length≤maxLen∧∀x∈l,(Lit.int k x).wf=true:=by
 rcases h with ⟨rfl,rfl,rfl,rfl⟩|⟨x,rfl,hl,hm,hz,hc,hw⟩
 ·exact ⟨[],rfl,ReadsInt.nil _ _,Nat.zero_le _,fun x hx=>by simp at hx⟩
 ·have e:(zs.take len).length=len:=by simp; omega
  have hm':len≤maxLen:=Nat.le_trans hl hm
  refine ⟨zs.take len,e.symm,⟨rfl,by rw [e]; simpa [maxLen] using hm',fun _=>⟨x,rfl,fun j hj=> ?_⟩⟩,by rw [e]; exact hm',fun y hy=>hw y (List.mem_of_mem_take hy)⟩
  rw [e] at hj
  rw [hc j zI]
  simp [List.getD,List.getElem?_take,hj]
theorem AI {w W:World} {g j:Nat} {v:Value} (h:Below w.heap.size w W) (hg:w.heap.size≤g):Below w.heap.size w (W.setCell ⟨g,j,none⟩ v):=h.setCell hg _
theorem BH (a:Addr) (i:Nat):(a.add i).block=a.block:=by unfold Addr.add; split<;>rfl
theorem Bu {W:World} {p a:Addr} (h:a.block≠p.block) (u:Value):(W.setCell p u).cell? a=W.cell? a:=by
 have:=Below.heap_setCell W p u a.block h
 simp [World.cell?,this]
theorem Am {w:World} {g:Nat} {t:TypeId} {cs cs':Array Value} (h:w.heap[g]? =some (.cells cs t (0,0))) (i:Nat) (u:Value) (e:cs.setIfInBounds i u=cs'):(w.setCell ⟨g,i,none⟩ u).heap[g]? =some (.cells cs' t (0,0)):=e▸Ey h i u
theorem own_blk {W:World} {base n c:Nat} {e:TypeId} {size g:Nat} {ad:Addr} {xs:List Value} (_:W.ownsRow base e size (.slice (some ad) n c) n xs) (hne:some g≠(Value.slice (some ad) n c).ownBlock):ad.block≠g:=by
 rintro rfl
 exact hne (by simp [Value.ownBlock])
theorem ReadsInt.ofRowC {k:IntKind} {w:World} {a:Option Addr} {len cap:Nat} {zs:List Int} (h:(a=none∧len=0∧cap=0∧zs=[])∨∃x,a=some x∧len≤cap∧cap≤maxLen∧zs.length=cap∧(∀i,i<zs.length→w.cell? (x.add i)=some (.int k (zs.getD i 0)))∧∀n∈zs,(Lit.int k n).wf=true):
  ∃l:List Int,len=l.length∧ReadsInt w k a l.length l∧l.length≤maxLen∧(∀x∈l,(Lit.int k x).wf=true)∧l.length≤cap:=by
 have hl:len≤cap:=by
  rcases h with ⟨_,rfl,rfl,_⟩|⟨_,_,h,_⟩
  ·exact Nat.le_refl _
  ·exact h
 obtain ⟨l,e,h1,h2,h3⟩:=ReadsInt.ofRow h
 exact ⟨l,e,h1,h2,h3,e▸hl⟩
theorem AD {base:Nat} {w W:World} (h:Below base w W):Below base w W.drew:=h.drew
namespace Kd
section
variable {α β:Type} {d:Kd α} {d':Kd β} {e e' base base' n:Nat} {ok ok':Nat→Prop} {w W w1 W1:World} {v u:Value} {xs:List α} {ys:List β} {A:Option Addr} {c:Nat}
theorem own_blk {ad:Addr} {g:Nat} (hne:some g≠(Value.slice (some ad) n c).ownBlock):ad.block≠g:=by
 rintro rfl
 exact hne (by simp [Value.ownBlock])
end
section
variable {α:Type} {enc:α→Value} {h1:∀x,(enc x).oneCell'=true} {w W:World} {A:Option Addr} {n g:Nat} {xs:List α}
end
end Kd
namespace Kd
section
variable {α:Type} {d:Kd α} {e base g:Nat} {ok:Nat→Prop} {w w1:World} {v:Value} {xs:List α} {o:Obj}
theorem freshB (hb:w.heap[g]? =some o):∀k,w.heap.size≤k→k≠g:=fun k hk=>by have:=B0 hb; omega
end
end Kd
section
variable {P:Program} {ops:Array Oper} {rest:List Oper} {o:Oper} {a:Act} {Q:Exit→Act→World→Prop}
theorem Ap {W:World} (hgd:o.guard=none) {N:Tmp} (_hd:o.dst=some N) {cs:Array Value} {t:TypeId}
  (hrun:(execOp a.eval o).run P W= .ok (.value (.pointer (some ⟨W.heap.size,0,none⟩))) (W.alloc (.cells cs t (0,0))))
  (h:∀g,g=W.heap.size→∀w1,w1.heap[g]? =some (.cells cs t (0,0))→Below W.heap.size W w1→wpList P ops Q rest (a.put o.dst (.pointer (some ⟨g,0,none⟩))) w1):wpList P ops Q (o::rest) a W:=
 Kd.event_run hgd hrun (h _ rfl _ (blk_new W _) (AE (Below.refl _ _) _))
end
namespace Kd
section
variable {α:Type} {enc:α→Value} {h1:∀x,(enc x).oneCell'=true} {e base g n cap:Nat} {ok:Nat→Prop} {W:World} {xs:List α}
theorem R_celln (d:α) (h:(scalar enc h1).R e W base ok (.slice (some ⟨g,0,none⟩) n cap) xs) (i:Int) (h0:0≤i) (hi:i<n):W.cell? ⟨g,i.toNat,none⟩=some (enc (rdOf d xs i))∧W.frozen? ⟨g,i.toNat,none⟩=false:=by
 obtain ⟨rfl,_⟩:=R_reads' h
 exact R_cell d h i h0 hi
end
end Kd
section
variable {P:Program} {ops:Array Oper} {rest:List Oper} {o:Oper} {a:Act} {Q:Exit→Act→World→Prop}
theorem Bx {W w1:World} (hgd:o.guard=none) {t:TypeId} {p:Tmp} {v:Operand} (_ho:o.op= .store t (.tmp p) v) (hN:o.dst=none)
  (hrun:(execOp a.eval o).run P W= .ok .skip w1) (h:∀w',w'=w1→wpList P ops Q rest a w'):wpList P ops Q (o::rest) a W:=by
 refine wpList_plain hgd fun K hK=> ?_
 unfold Oper.wp
 rw [hrun]
 show K (a.put o.dst undef) w1
 rw [hN]
 exact hK _ _ (h _ rfl)
end
namespace Kd
section
variable {α:Type} {enc:α→Value} {h1:∀x,(enc x).oneCell'=true} {e base g n cap:Nat} {ok:Nat→Prop} {W:World} {xs:List α}
theorem R_putg (h:(scalar enc h1).R e W base ok (.slice (some ⟨g,0,none⟩) n cap) xs) (i:Int) (x:α):(scalar enc h1).R e (W.setCell ⟨g,i.toNat,none⟩ (enc x)) base ok (.slice (some ⟨g,0,none⟩) n cap) (xs.set i.toNat x)∧W.grownBy (W.setCell ⟨g,i.toNat,none⟩ (enc x)) (some g):=by
 obtain ⟨rfl,_⟩:=R_reads' h
 exact R_put h i x
end
end Kd
section
variable {P:Program} {ops:Array Oper} {rest:List Oper} {o:Oper} {a:Act} {Q:Exit→Act→World→Prop} {W:World}
theorem Ar {N:Tmp} (_hN:o.dst=some N) (h:wpList P ops Q (o::rest) a W):wpList P ops Q (o::rest) a W:=h
theorem C3 {t:TypeId} {p:Tmp} {v:Operand} (_ho:o.op= .store t (.tmp p) v) (h:wpList P ops Q (o::rest) a W):wpList P ops Q (o::rest) a W:=h
end
section
variable {P:Program} {ops:Array Oper} {o:Oper} {a:Act} {Q:Exit→Act→World→Prop} {Kc:Act→World→Prop}
theorem DQ {W w1:World} {v:Value} (hw:Region.wanted o (yielded ops a.tmps)=true) (hrun:(execOp a.eval o).run P W= .ok (.value v) w1) (h:Kc (a.put o.dst v) w1):if Region.wanted o (yielded ops a.tmps)=true then Oper.wp P o a W Kc Q else Kc (a.put o.dst undef) W:=by
 rw [if_pos hw]
 unfold Oper.wp
 rw [hrun]
 exact h
namespace Kd
variable {α:Type}
end Kd
end
inductive Vals (P:Program) (tmps:Array Value) (w:World):List ResultVar→List Value→Prop where
 |nil:Vals P tmps w [] []
 |tmp {u:Tmp} {rs:List ResultVar} {vs:List Value} (h:Vals P tmps w rs vs):Vals P tmps w (.tmp u::rs) (tmps.getD u undef::vs)
 |cell {p:Tmp} {ty:TypeId} {rs:List ResultVar} {vs:List Value} (g:Nat) (t:TypeId) (cs:Array Value) (fr:Nat×Nat) (d:TypeDesc)
  (hp:tmps.getD p undef= .pointer (some ⟨g,0,none⟩)) (hg:w.heap[g]? =some (.cells cs t fr))
  (hu:P.underlying ty=some d) (hd:(match d with| .struct _| .array _ _=>true|_=>false)=true) (hi:(P.info? ty).map (·.size)=some cs.size)
  (h:Vals P tmps w rs vs):Vals P tmps w (.cell p ty::rs) (.agg cs::vs)
section
variable {P:Program} {tmps:Array Value} {w:World}
end
namespace Kd
section
variable {P:Program} {α:Type}
end
section
variable {P:Program} {ops:Array Oper} {rest:List Oper} {o:Oper} {a:Act} {Q:Exit→Act→World→Prop} {Kc:Act→World→Prop} {α:Type}
end
end Kd
end Go.Proofs.YtdadecjefafflaaDoorW.PrintWords
end
section
namespace Go.Proofs.YtdadecjefafflaaDoorW.PrintLast
set_option maxRecDepth 100000
section
variable {P:Program} {ops:Array Oper} {Q:Exit→Act→World→Prop} {md:Region.Mode} {S:World→Prop} {ds:List Nat}
def Region.reachB (md:Region.Mode) (ops:Array Oper) (i:Nat):Nat→Nat→Bool
 |0,_=>false
 | fuel+1,d=>match ops[d]? with
  |some o=>o.after.any fun e=>Region.binds md e&&(e.on==i||Region.reachB md ops i fuel e.on)
  |none=>false
def Region.closedB (md:Region.Mode) (ops:Array Oper) (listed:Array Bool):Bool:=
 (List.range ops.size).all fun j=> !listed.getD j false||match ops[j]? with
  |some o=>o.after.all fun e=> !Region.binds md e||listed.getD e.on false
  |none=>true
def Region.lastB (md:Region.Mode) (ops:Array Oper) (listed:Array Bool) (ds:List Nat) (i:Nat):Bool:=
 ds.all fun d=>listed.getD d true||Region.reachB md ops i ops.size d
def ListedClosed (md:Region.Mode) (ops:Array Oper) (listed:Array Bool):Prop:=
 ∀j oj,ops[j]? =some oj→listed.getD j false=true→∀e∈oj.after,Region.binds md e=true→listed.getD e.on false=true
theorem Region.closedB_spec {listed:Array Bool} (h:Region.closedB md ops listed=true):ListedClosed md ops listed:=by
 intro j oj hj hl e he hb
 have hlt:j<ops.size:=(Array.getElem?_eq_some_iff.1 hj).1
 have h1:=List.all_eq_true.1 h j (List.mem_range.2 hlt)
 simp only [hl,hj,Bool.not_true,Bool.false_or] at h1
 have h2:=Array.all_eq_true_iff_forall_mem.1 h1 e he
 simpa [hb] using h2
theorem ListedClosed.set {listed:Array Bool} {i:Nat} (h:ListedClosed md ops listed) (hi:i∈Region.ready md ops listed):ListedClosed md ops (listed.setIfInBounds i true):=by
 obtain ⟨_,oi,hoi,hall⟩:=mem_ready.1 hi
 intro j oj hj hl e he hb
 by_cases hij:i=j
 ·subst hij
  have:oj=oi:=Option.some.inj (hj.symm.trans hoi)
  subst this
  exact getD_set_true (hall e he hb)
 ·rw [getD_set_ne false hij] at hl
  exact getD_set_true (h j oj hj hl e he hb)
theorem Region.reach_listed {listed:Array Bool} {i:Nat} (hc:ListedClosed md ops listed):∀(fuel d:Nat),Region.reachB md ops i fuel d=true→listed.getD d false=true→listed.getD i false=true
 |0,_,h,_=>by simp [Region.reachB] at h
 | fuel+1,d,h,hl=>by
  unfold Region.reachB at h
  cases ho:ops[d]? with
  |none=>rw [ho] at h; simp at h
  | some o=>
   rw [ho] at h
   obtain ⟨e,he,h1⟩:=Array.any_eq_true'.1 h
   simp only [Bool.and_eq_true,Bool.or_eq_true,beq_iff_eq] at h1
   have hle:=hc d o ho hl e he h1.1
   rcases h1.2 with h2|h2
   ·rw [←h2]; exact hle
   ·exact Region.reach_listed hc fuel e.on h2 hle
theorem Region.reach_not_ready {listed:Array Bool} {i d fuel:Nat} (hc:ListedClosed md ops listed) (hr:Region.reachB md ops i fuel d=true) (hun:listed.getD i true=false):d ∉ Region.ready md ops listed:=by
 intro hd
 obtain ⟨_,o,ho,hall⟩:=mem_ready.1 hd
 have hi:listed.getD i false=true:=by
  cases fuel with
  |zero=>simp [Region.reachB] at hr
  | succ n=>
   unfold Region.reachB at hr
   rw [ho] at hr
   obtain ⟨e,he,h1⟩:=Array.any_eq_true'.1 hr
   simp only [Bool.and_eq_true,Bool.or_eq_true,beq_iff_eq] at h1
   have hle:=hall e he h1.1
   rcases h1.2 with h2|h2
   ·rw [←h2]; exact hle
   ·exact Region.reach_listed hc n e.on h2 hle
 rcases Nat.lt_or_ge i listed.size with h'|h'
 ·simp [h'] at hun hi
  rw [hun] at hi
  cases hi
 ·simp [Array.getElem?_eq_none h'] at hun
def BJ (P:Program) (md:Region.Mode) (ops:Array Oper) (Q:Exit→Act→World→Prop) (S:World→Prop) (ds:List Nat):Nat→Array Bool→Act→World→Prop
 |0,listed,a,w=>Region.ready md ops listed=[]∧Q .normal a w
 | fuel+1,listed,a,w=>
  (Region.ready md ops listed=[]→Q .normal a w)∧
  ∀i∈Region.ready md ops listed,wpOp P ops Q i (fun a' w'=>(i ∉ ds→S w→S w')∧BJ P md ops Q S ds fuel (listed.setIfInBounds i true) a' w') a w
theorem CY:∀(fuel:Nat) (listed:Array Bool) (a:Act) (w:World),BJ P md ops Q S ds fuel listed a w→wpAny P md ops Q fuel listed a w
 |0,_,_,_,h=>h
 |fuel+1,_,_,_,h=>⟨h.1,fun i hi=>wpOp_mono (fun a' w' h'=>CY fuel _ a' w' h'.2) (h.2 i hi)⟩
theorem DA {i:Nat} {oi:Oper} {v:Value} (hi:ops[i]? =some oi) (hsel:∀(j:Nat) (o:Oper) cs b,ops[j]? =some o→o.op≠ .select cs b)
  (hQ:∀c a w,Q (.panic c) (a.put oi.dst v) w→Q (.panic c) a w) (n:Nat):
  ∀ (fuel:Nat) (listed:Array Bool) (a:Act) (w:World),
   (∀j oj,ops[j]? =some oj→j≠i→listed.getD j true=false→(∀e∈oj.after,Region.binds md e=true→e.on≠i)→oi.apart ops oj=true)→
   ListedClosed md ops listed→(∀d∈ds,listed.getD d true=false→Region.reachB md ops i n d=true)→
   i∈Region.ready md ops listed→YieldsIf P ops S oi v a→S w→
   BJ P md ops Q S ds fuel (listed.setIfInBounds i true) (a.put oi.dst v) w→BJ P md ops Q S ds (fuel+1) listed a w:=by
 intro fuel
 induction fuel with
 | zero=>
  intro listed a w _ _ _ hr hy hS H
  refine ⟨fun h=>(by rw [h] at hr; cases hr),fun j hj=> ?_⟩
  by_cases hji:j=i
  ·subst hji; exact hy.wpOp hi hS ⟨fun _ h=>h,H⟩
  ·have:=ready_mono hj hji
   rw [H.1] at this
   cases this
 | succ fuel ih=>
  intro listed a w hfree hc hd hr hy hS H
  refine ⟨fun h=>(by rw [h] at hr; cases hr),fun j hj=> ?_⟩
  by_cases hji:j=i
  ·subst hji; exact hy.wpOp hi hS ⟨fun _ h=>h,H⟩
  ·have h1:=H.2 j (ready_mono hj hji)
   obtain ⟨hjun,oj,hoj,hall⟩:=mem_ready.1 hj
   have hiun:=(mem_ready.1 hr).1
   have hnot:∀e∈oj.after,Region.binds md e=true→e.on≠i:=fun e he hb heq=>by
    have h1:=hall e he hb
    rw [heq] at h1
    rcases Nat.lt_or_ge i listed.size with h'|h'
    ·simp [h'] at hiun h1; rw [hiun] at h1; cases h1
    ·simp [Array.getElem?_eq_none h'] at h1
   have hjd:j ∉ ds:=fun hm=>Region.reach_not_ready hc (hd j hm hjun) hiun hj
   have h2:=wpOp_putIf hoj (hfree j oj hoj hji hjun hnot) (fun cs b=>hsel i oi cs b hi) (fun cs b=>hsel j oj cs b hoj) hQ hy h1
   have hfree':∀k ok,ops[k]? =some ok→k≠i→(listed.setIfInBounds j true).getD k true=false→
     (∀e∈ok.after,Region.binds md e=true→e.on≠i)→oi.apart ops ok=true:=fun k ok hk hki hun hno=>by
    refine hfree k ok hk hki ?_ hno
    by_cases hjk:j=k
    ·subst hjk; exact hjun
    ·rw [getD_set_ne true hjk] at hun; exact hun
   have hd':∀d∈ds,(listed.setIfInBounds j true).getD d true=false→Region.reachB md ops i n d=true:=fun d hm hun=>by
    refine hd d hm ?_
    by_cases hjk:j=d
    ·subst hjk; exact hjun
    ·rw [getD_set_ne true hjk] at hun; exact hun
   refine wpOp_mono (fun a' w' h3=>⟨h3.2.1,ih (listed.setIfInBounds j true) a' w' hfree' (hc.set hj) hd' (ready_mono hr (Ne.symm hji)) h3.1 (h3.2.1 hjd hS) ?_⟩) h2
   rw [Array.setIfInBounds_comm _ _ hji]
   exact h3.2.2
theorem DU {i:Nat} {oi:Oper} {v:Value} (hi:ops[i]? =some oi) (hsel:∀(j:Nat) (o:Oper) cs b,ops[j]? =some o→o.op≠ .select cs b)
  (hQ:∀c a w,Q (.panic c) (a.put oi.dst v) w→Q (.panic c) a w):
  ∀ (fuel:Nat) (listed:Array Bool) (a:Act) (w:World),
   (∀j oj,ops[j]? =some oj→j≠i→listed.getD j true=false→(∀e∈oj.after,Region.binds md e=true→e.on≠i)→oi.apart ops oj=true)→
   i∈Region.ready md ops listed→Yields P ops oi v a→
   BJ P md ops Q S ds fuel (listed.setIfInBounds i true) (a.put oi.dst v) w→BJ P md ops Q S ds (fuel+1) listed a w:=by
 intro fuel
 induction fuel with
 | zero=>
  intro listed a w _ hr hy H
  refine ⟨fun h=>(by rw [h] at hr; cases hr),fun j hj=> ?_⟩
  by_cases hji:j=i
  ·subst hji; exact (hy.yieldsIf (S:=fun _=>True)).wpOp hi trivial ⟨fun _ h=>h,H⟩
  ·have:=ready_mono hj hji
   rw [H.1] at this
   cases this
 | succ fuel ih=>
  intro listed a w hfree hr hy H
  refine ⟨fun h=>(by rw [h] at hr; cases hr),fun j hj=> ?_⟩
  by_cases hji:j=i
  ·subst hji; exact (hy.yieldsIf (S:=fun _=>True)).wpOp hi trivial ⟨fun _ h=>h,H⟩
  ·have h1:=H.2 j (ready_mono hj hji)
   obtain ⟨hjun,oj,hoj,hall⟩:=mem_ready.1 hj
   have hiun:=(mem_ready.1 hr).1
   have hnot:∀e∈oj.after,Region.binds md e=true→e.on≠i:=fun e he hb heq=>by
    have h1:=hall e he hb
    rw [heq] at h1
    rcases Nat.lt_or_ge i listed.size with h'|h'
    ·simp [h'] at hiun h1; rw [hiun] at h1; cases h1
    ·simp [Array.getElem?_eq_none h'] at h1
   have h2:=wpOp_put hoj (hfree j oj hoj hji hjun hnot) (fun cs b=>hsel i oi cs b hi) (fun cs b=>hsel j oj cs b hoj) hQ hy h1
   have hfree':∀k ok,ops[k]? =some ok→k≠i→(listed.setIfInBounds j true).getD k true=false→
     (∀e∈ok.after,Region.binds md e=true→e.on≠i)→oi.apart ops ok=true:=fun k ok hk hki hun hno=>by
    refine hfree k ok hk hki ?_ hno
    by_cases hjk:j=k
    ·subst hjk; exact hjun
    ·rw [getD_set_ne true hjk] at hun; exact hun
   refine wpOp_mono (fun a' w' h3=>⟨h3.2.1,ih (listed.setIfInBounds j true) a' w' hfree' (ready_mono hr (Ne.symm hji)) h3.1 ?_⟩) h2
   rw [Array.setIfInBounds_comm _ _ hji]
   exact h3.2.2
theorem DF {i:Nat} {oi:Oper} {v:Value} {fuel:Nat} {listed:Array Bool} {a:Act} {w:World} (hi:ops[i]? =some oi)
  (hs:Region.noSelect ops=true) (hf:Region.free md ops listed i=true) (hr:(Region.ready md ops listed).contains i=true)
  (hc:Region.closedB md ops listed=true) (hl:Region.lastB md ops listed ds i=true)
  (hQ:∀c a w,Q (.panic c) (a.put oi.dst v) w→Q (.panic c) a w) (hy:YieldsIf P ops S oi v a) (hS:S w)
  (h:BJ P md ops Q S ds fuel (listed.setIfInBounds i true) (a.put oi.dst v) w):BJ P md ops Q S ds (fuel+1) listed a w:=
 DA hi (Region.noSelect_spec hs) hQ ops.size fuel listed a w (Region.free_spec hi hf) (Region.closedB_spec hc)
  (fun d hm hun=>by have:=List.all_eq_true.1 hl d hm; rw [hun] at this; simpa using this) (by simpa using hr) hy hS h
theorem DV {rs:List Nat} {fuel:Nat} {listed:Array Bool} {a:Act} {w:World} (hr:Region.ready md ops listed=rs) (hne:rs≠[])
  (h:∀i∈rs,wpOp P ops Q i (fun a' w'=>(i ∉ ds→S w→S w')∧BJ P md ops Q S ds fuel (listed.setIfInBounds i true) a' w') a w):BJ P md ops Q S ds (fuel+1) listed a w:=
 ⟨fun h0=>absurd (hr▸h0) hne,hr▸h⟩
theorem DG {listed:Array Bool} {a:Act} {w:World} (hr:Region.ready md ops listed=[]) (h:Q .normal a w):
  ∀fuel,BJ P md ops Q S ds fuel listed a w
 |0=>⟨hr,h⟩
 |_+1=>⟨fun _=>h,by rw [hr]; simp⟩
theorem DE {id:Nat} {a:Act} {w:World} (hm:P.follows .mixedOrders=true)
  (h:BJ P .any ops Q S ds ops.size (Array.replicate ops.size false) a {w with drawn:=w.drawn+1}):(Code.region id ops true).wp P Q a w:=
 wp_region_any hm (CY _ _ _ _ h)
end
section
variable {P:Program} {ops:Array Oper} {Q:Exit→Act→World→Prop} {md:Region.Mode} {S:World→Prop} {ds:List Nat}
def AllReadyL (P:Program) (md:Region.Mode) (ops:Array Oper) (Q:Exit→Act→World→Prop) (S:World→Prop) (ds:List Nat) (fuel:Nat) (listed:Array Bool) (a:Act) (w:World) (rs:List Nat):Prop:=
 ∀i∈rs,wpOp P ops Q i (fun a' w'=>(i ∉ ds→S w→S w')∧BJ P md ops Q S ds fuel (listed.setIfInBounds i true) a' w') a w
theorem AllReadyL.nil {fuel:Nat} {listed:Array Bool} {a:Act} {w:World} :AllReadyL P md ops Q S ds fuel listed a w []:=fun _ h=>by cases h
theorem AllReadyL.cons {fuel:Nat} {listed:Array Bool} {a:Act} {w:World} {i:Nat} {o:Oper} {rs:List Nat} (ho:ops[i]? =some o) (hd:i ∉ ds)
  (h:∀K':Act→World→Prop,Shut (∀a w,S w→(S w→BJ P md ops Q S ds fuel (listed.setIfInBounds i true) a w)→K' a w)→if Region.wanted o (yielded ops a.tmps)=true then Oper.wp P o a w K' Q else K' (a.put o.dst undef) w)
  (hs:AllReadyL P md ops Q S ds fuel listed a w rs):AllReadyL P md ops Q S ds fuel listed a w (i::rs):=fun j hj=>by
 rcases List.mem_cons.1 hj with rfl|hj
 ·exact wpOp_step ho (fun K' hK=>h K' (fun a w hS hW=>hK a w ⟨fun _ _=>hS,hW hS⟩))
 ·exact hs j hj
theorem D9 {rs:List Nat} {fuel:Nat} {listed:Array Bool} {a:Act} {w:World} (hr:Region.ready md ops listed=rs) (hne:rs≠[])
 (h:AllReadyL P md ops Q S ds fuel listed a w rs):BJ P md ops Q S ds (fuel+1) listed a w:=DV hr hne h
theorem Bp {id n:Nat} {a:Act} {w:World} (l:Array Bool) (hm:P.follows .mixedOrders=true) (hn:ops.size=n) (hl:Array.replicate n false=l) (hS:S w.drew)
  (h:S w.drew→BJ P .any ops Q S ds n l a w.drew):(Code.region id ops true).wp P Q a w:=by
 subst hn
 subst hl
 exact DE hm (h hS)
def E3 (md:Region.Mode) (ops:Array Oper) (ds:List Nat) (l l':Array Bool) (i:Nat):Bool:=
 Region.noSelect ops&&Region.free md ops l i&&(Region.ready md ops l).contains i&&Region.closedB md ops l&&Region.lastB md ops l ds i&&(l.setIfInBounds i true==l')
theorem BK {i:Nat} {N:Option Tmp} {oi:Oper} {v:Value} {fuel:Nat} {l:Array Bool} {a:Act} {w:World} (l':Array Bool) (hi:ops[i]? =some oi) (hN:oi.dst=N) (hc:E3 md ops ds l l' i=true)
  (hQ:∀c a w,Q (.panic c) (a.put oi.dst v) w→Q (.panic c) a w) (hy:YieldsIf P ops S oi v a) (hS:S w) {a':Act} (ha:a.put N v=a')
  (h:BJ P md ops Q S ds fuel l' a' w):BJ P md ops Q S ds (fuel+1) l a w:=by
 subst ha
 subst hN
 simp only [E3,Bool.and_eq_true,beq_iff_eq] at hc
 obtain ⟨⟨⟨⟨⟨h1,h2⟩,h3⟩,h4⟩,h5⟩,h6⟩:=hc
 subst h6
 exact DF hi h1 h2 h3 h4 h5 hQ hy hS h
def anyB (md:Region.Mode) (ops:Array Oper) (l l':Array Bool) (i:Nat):Bool:=
 Region.noSelect ops&&Region.free md ops l i&&(Region.ready md ops l).contains i&&(l.setIfInBounds i true==l')
theorem AX {i:Nat} {N:Option Tmp} {oi:Oper} {v:Value} {fuel:Nat} {l:Array Bool} {a:Act} {w:World} (l':Array Bool) (hi:ops[i]? =some oi) (hN:oi.dst=N) (hc:anyB md ops l l' i=true)
  (hQ:∀c a w,Q (.panic c) (a.put oi.dst v) w→Q (.panic c) a w) (hy:Yields P ops oi v a) {a':Act} (ha:a.put N v=a')
  (h:BJ P md ops Q S ds fuel l' a' w):BJ P md ops Q S ds (fuel+1) l a w:=by
 subst ha
 subst hN
 simp only [anyB,Bool.and_eq_true,beq_iff_eq] at hc
 obtain ⟨⟨⟨h1,h2⟩,h3⟩,h6⟩:=hc
 subst h6
 exact DU hi (Region.noSelect_spec h1) hQ fuel l a w (Region.free_spec hi h2) (by simpa using h3) hy h
def Dn (md:Region.Mode) (ops:Array Oper) (l l':Array Bool) (i:Nat):Bool:=(Region.ready md ops l==[i])&&(l.setIfInBounds i true==l')
theorem one_ {i:Nat} {N:Option Tmp} {oi:Oper} {fuel:Nat} {l:Array Bool} {a:Act} {w:World} (l':Array Bool) (hi:ops[i]? =some oi) (hN:oi.dst=N) (hc:Dn md ops l l' i=true) (hd:i ∉ ds)
  (h:∀K:Act→World→Prop,Shut (∀a' w',S w'→(S w'→BJ P md ops Q S ds fuel l' a' w')→K a' w')→if Region.wanted oi (yielded ops a.tmps)=true then Oper.wp P oi a w K Q else K (a.put N undef) w):
  BJ P md ops Q S ds (fuel+1) l a w:=by
 subst hN
 simp only [Dn,Bool.and_eq_true,beq_iff_eq] at hc
 obtain ⟨h1,h2⟩:=hc
 subst h2
 exact D9 h1 zA6 (AllReadyL.cons hi hd (fun K hK=>h K hK) AllReadyL.nil)
theorem C7 {l:Array Bool} {a:Act} {w:World} {n:Nat} (hr:(Region.ready md ops l==[])=true) (h:Q .normal a w):BJ P md ops Q S ds n l a w:=DG (by simpa using hr) h n
theorem Bq {fuel:Nat} {l:Array Bool} {a a':Act} {w:World} (ha:a=a') (h:BJ P md ops Q S ds fuel l a' w):BJ P md ops Q S ds fuel l a w:=by
 subst ha
 exact h
theorem call_ {oi:Oper} {N:Option Tmp} {a:Act} {w:World} {K:Act→World→Prop} (f:FuncId) (args:Array Value) (hw:Region.wanted oi (yielded ops a.tmps)=true) (hN:oi.dst=N) (hrun:(execOp a.eval oi).run P w= .ok (.enter f args) w)
  (h:Calls P f args w fun e w'=>∃v,e= .returned v∧K (a.put N v) w'):if Region.wanted oi (yielded ops a.tmps)=true then Oper.wp P oi a w K Q else K (a.put N undef) w:=by
 rw [if_pos hw]
 subst hN
 unfold Oper.wp
 rw [hrun,Oper.upon_enter]
 refine h.mono fun e w'' hh=> ?_
 obtain ⟨v,rfl,hk⟩:=hh
 exact hk
theorem DC {f:FuncId} {fn:Func} (hf:P.funcs[f]? =some fn) (hname:(fn.name== "runtime.NumGoroutine")=false) (hb:fn.body.isSome=true) (args:Array Value) (w:World):(callFunc f args).run P w= .ok (.enter f args) w:=by
 have h1:fn.name≠ "runtime.NumGoroutine" :=by simpa using hname
 obtain ⟨c,hc⟩:=Option.isSome_iff_exists.1 hb
 simp [callFunc,hf,h1,hc]
theorem C1 {oi:Oper} {N:Option Tmp} {a:Act} {w:World} {K:Act→World→Prop} {f:FuncId} {fn:Func} {azz:Array Operand} {ts:Array TypeId} (hf:P.funcs[f]? =some fn) (hname:(fn.name== "runtime.NumGoroutine")=false) (hb:fn.body.isSome=true) (args:Array Value)
  (hw:Region.wanted oi (yielded ops a.tmps)=true) (hN:oi.dst=N) (hop:oi.op= .call {callee:= .value (.func f),args:=azz,argTypes:=ts}) (hargs:azz.map a.eval=args)
  (h:Calls P f args w fun e w'=>∃v,e= .returned v∧K (a.put N v) w'):if Region.wanted oi (yielded ops a.tmps)=true then Oper.wp P oi a w K Q else K (a.put N undef) w:=by
 refine call_ f args hw hN ?_ h
 have he:=DC hf hname hb args w
 unfold execOp
 simp [hop,resolve,Deferred.ofValue,invoke,Act.eval,hargs,he]
theorem BB {rest:List Oper} {oi:Oper} {a:Act} {w:World} (N:Option Tmp) (hd:oi.dst=N) (hg:oi.guard=none) {f:FuncId} {fn:Func} {azz:Array Operand} {ts:Array TypeId} (hf:P.funcs[f]? =some fn) (hname:(fn.name== "runtime.NumGoroutine")=false) (hb:fn.body.isSome=true) (args:Array Value)
  (hop:oi.op= .call {callee:= .value (.func f),args:=azz,argTypes:=ts}) (hargs:azz.map a.eval=args)
  (h:Calls P f args w fun e w'=>∃v,e= .returned v∧wpList P ops Q rest (a.put N v) w'):wpList P ops Q (oi::rest) a w:=by
 refine wpList_plain hg fun K hK=> ?_
 have he:=DC hf hname hb args w
 have hrun:(execOp a.eval oi).run P w= .ok (.enter f args) w:=by
  unfold execOp
  simp [hop,resolve,Deferred.ofValue,invoke,Act.eval,hargs,he]
 unfold Oper.wp
 rw [hrun,Oper.upon_enter]
 refine h.mono fun e w'' hh=> ?_
 obtain ⟨v,rfl,hk⟩:=hh
 subst hd
 exact hK _ _ hk
theorem FL {oi:Oper} {N:Option Tmp} {a:Act} {w w1:World} {v:Value} {K:Act→World→Prop} (hw:Region.wanted oi (yielded ops a.tmps)=true) (hN:oi.dst=N) (hrun:(execOp a.eval oi).run P w= .ok (.value v) w1)
  (h:K (a.put N v) w1):if Region.wanted oi (yielded ops a.tmps)=true then Oper.wp P oi a w K Q else K (a.put N undef) w:=by
 rw [if_pos hw]
 subst hN
 unfold Oper.wp
 rw [hrun]
 exact h
theorem Ef {oi:Oper} {a:Act} {w w1:World} {K:Act→World→Prop} (hw:Region.wanted oi (yielded ops a.tmps)=true) (hN:oi.dst=none) (hrun:(execOp a.eval oi).run P w= .ok .skip w1)
  (h:K a w1):if Region.wanted oi (yielded ops a.tmps)=true then Oper.wp P oi a w K Q else K (a.put none undef) w:=by
 rw [if_pos hw]
 unfold Oper.wp
 rw [hrun]
 show K (a.put oi.dst undef) w1
 rw [hN]
 exact h
theorem AR (n:Int):IntKind.i64.wrap n=Go.RowKit.wrap64 n:=by unfold Go.RowKit.wrap64; exact IntKind.wrap_i64 n
theorem AS (n:Int):IntKind.i32.wrap n=Go.RowKit.wrap32 n:=by unfold Go.RowKit.wrap32; exact IntKind.wrap_i32 n
theorem yB {p:Prop} (h:p:=by simp only [Act.put,List.setIfInBounds_toArray,List.set_cons_zero,List.set_cons_succ,AR,AS]; rfl):p:=h
end
end Go.Proofs.YtdadecjefafflaaDoorW.PrintLast
end
section
namespace Go.Proofs.YtdadecjefafflaaDoorW.PrintLast
set_option maxRecDepth 100000
open Go.Proofs.YtdadecjefafflaaDoorW.PrintWords (Aside0)
def CX (md:Region.Mode) (o:Oper):List Nat:=(o.after.toList.filter (fun e=>Region.binds md e)).map (fun e=>e.on)
def Dv (md:Region.Mode) (ops:Array Oper) (i:Nat) (oi:Oper):List Nat:=(List.range ops.size).filter fun j=> !(j==i)&&match ops[j]? with
 |some oj=> !(oj.after.any (fun e=>Region.binds md e&&e.on==i)||oi.apart ops oj)
 |none=>false
def rtab (md:Region.Mode) (ops:Array Oper):Bool×List (List Nat×List Nat):=(Region.noSelect ops,(List.range ops.size).map fun i=>match ops[i]? with
 |some o=>(CX md o,Dv md ops i o)
 |none=>([],[]))
def CJ (T:List (List Nat×List Nat)) (l:List Bool) (i:Nat):Bool:= !l.getD i true&&match T[i]? with
 |some r=>r.1.all (fun j=>l.getD j false)
 |none=>false
def DK (T:List (List Nat×List Nat)) (l:List Bool):List Nat:=(List.range T.length).filter (CJ T l)
def EF (T:List (List Nat×List Nat)) (l:List Bool) (i:Nat):Bool:=match T[i]? with
 |some r=>r.2.all (fun j=>l.getD j true)
 |none=>false
def DD (T:List (List Nat×List Nat)) (l:List Bool):Bool:=(List.range T.length).all fun j=> !l.getD j false||match T[j]? with
 |some r=>r.1.all (fun k=>l.getD k false)
 |none=>true
def Cw (T:List (List Nat×List Nat)) (i:Nat):Nat→Nat→Bool
 |0,_=>false
 | fuel+1,d=>match T[d]? with
  |some r=>r.1.any fun j=>j==i||Cw T i fuel j
  |none=>false
def Eq (T:List (List Nat×List Nat)) (l:List Bool) (ds:List Nat) (i:Nat):Bool:=ds.all fun d=>l.getD d true||Cw T i T.length d
section
variable {md:Region.Mode} {ops:Array Oper} {T:Bool×List (List Nat×List Nat)} {l l' li lj lk:Array Bool} {ds:List Nat} {i j k:Nat}
theorem gd (l:Array Bool) (j:Nat) (b:Bool):l.getD j b=l.toList.getD j b:=by simp [Array.getD_eq_getD_getElem?,List.getD_eq_getElem?_getD]
theorem Dg (o:Oper) (p:Nat→Bool):o.after.all (fun e=> !Region.binds md e||p e.on)=(CX md o).all p:=by
 unfold CX
 rw [←Array.all_toList]
 induction o.after.toList with
 |nil=>rfl
 | cons e r ih=>
  rw [List.all_cons,ih,List.filter_cons]
  cases h:Region.binds md e<;>simp
theorem F7 (o:Oper) (p:Nat→Bool):o.after.any (fun e=>Region.binds md e&&p e.on)=(CX md o).any p:=by
 unfold CX
 rw [←Array.any_toList]
 induction o.after.toList with
 |nil=>rfl
 | cons e r ih=>
  rw [List.any_cons,ih,List.filter_cons]
  cases h:Region.binds md e<;>simp
theorem CH:(rtab md ops).2.length=ops.size:=by simp [rtab]
theorem CV {o:Oper} (h:ops[i]? =some o):(rtab md ops).2[i]? =some (CX md o,Dv md ops i o):=by
 have hi:=(Array.getElem?_eq_some_iff.1 h).1
 unfold rtab
 rw [List.getElem?_map,List.getElem?_range hi,Option.map_some,h]
theorem CW (h:ops[i]? =none):(rtab md ops).2[i]? =none:=by
 have hi:ops.size≤i:=Array.getElem?_eq_none_iff.1 h
 exact List.getElem?_eq_none (by rw [CH]; exact hi)
theorem EQ:CJ (rtab md ops).2 l.toList i=(!l.getD i true&&((ops[i]?).map (·.after.all fun e=> !Region.binds md e||l.getD e.on false)).getD false):=by
 unfold CJ
 rw [gd]
 cases h:ops[i]? with
 |none=>rw [CW h]; rfl
 | some o=>
  rw [CV h]
  simp only [Option.map_some,Option.getD_some]
  rw [←Dg]
  simp only [gd]
theorem DJ:Region.ready md ops l=DK (rtab md ops).2 l.toList:=by
 unfold Region.ready DK
 rw [CH]
 refine List.filter_congr (fun i _=> ?_)
 rw [EQ]
theorem Et:Region.free md ops l i=EF (rtab md ops).2 l.toList i:=by
 unfold Region.free EF
 cases h:ops[i]? with
 |none=>rw [CW h]
 | some oi=>
  rw [CV h]
  simp only [Dv]
  rw [List.all_filter]
  congr 1
  funext j
  rw [gd]
  cases hj:ops[j]? with
  |none=>cases (j==i)<;>cases (l.toList.getD j true)<;>simp
  | some oj=>
   cases (j==i)<;>cases (l.toList.getD j true)<;>cases (oj.after.any (fun e=>Region.binds md e&&e.on==i)||oi.apart ops oj)<;>simp_all
theorem FF:Region.closedB md ops l=DD (rtab md ops).2 l.toList:=by
 unfold Region.closedB DD
 rw [CH]
 congr 1
 funext j
 rw [gd]
 cases h:ops[j]? with
 |none=>rw [CW h]
 | some o=>
  rw [CV h]
  simp only
  rw [←Dg]
  simp only [gd]
theorem E7:∀(fuel d:Nat),Region.reachB md ops i fuel d=Cw (rtab md ops).2 i fuel d
 |0,_=>rfl
 | fuel+1,d=>by
  unfold Region.reachB Cw
  cases h:ops[d]? with
  |none=>rw [CW h]
  | some o=>
   rw [CV h]
   simp only
   rw [←F7]
   congr 1
   funext e
   rw [E7 fuel]
theorem last_eq:Region.lastB md ops l ds i=Eq (rtab md ops).2 l.toList ds i:=by
 unfold Region.lastB Eq
 rw [CH]
 congr 1
 funext d
 rw [gd,E7]
theorem D3 (h:CJ T.2 l.toList i=true) (hT:rtab md ops=T):(Region.ready md ops l).contains i=true:=by
 subst hT
 rw [DJ]
 unfold DK
 rw [List.contains_iff_mem,List.mem_filter,List.mem_range]
 refine ⟨?_,h⟩
 unfold CJ at h
 rw [Bool.and_eq_true] at h
 cases hq:(rtab md ops).2[i]? with
 |none=>rw [hq] at h; simp at h
 |some r=>exact (List.getElem?_eq_some_iff.1 hq).1
theorem EN (h:(l.toList.set i true==l'.toList)=true):(l.setIfInBounds i true==l')=true:=by
 rw [beq_iff_eq] at h ⊢
 apply Array.ext'
 rw [Array.toList_setIfInBounds]
 exact h
def anyT (T:Bool×List (List Nat×List Nat)) (l l':List Bool) (i:Nat):Bool:=T.1&&EF T.2 l i&&CJ T.2 l i&&(l.set i true==l')
theorem AQ (hT:rtab md ops=T) (h:anyT T l.toList l'.toList i=true):anyB md ops l l' i=true:=by
 simp only [anyT,Bool.and_eq_true] at h
 obtain ⟨⟨⟨h1,h2⟩,h3⟩,h4⟩:=h
 have h5:=D3 h3 hT
 have h6:=EN h4
 subst hT
 simp only [anyB,Bool.and_eq_true]
 exact ⟨⟨⟨h1,by rw [Et]; exact h2⟩,h5⟩,h6⟩
def FM (T:Bool×List (List Nat×List Nat)) (ds:List Nat) (l l':List Bool) (i:Nat):Bool:=T.1&&EF T.2 l i&&CJ T.2 l i&&DD T.2 l&&Eq T.2 l ds i&&(l.set i true==l')
theorem take_of (hT:rtab md ops=T) (h:FM T ds l.toList l'.toList i=true):E3 md ops ds l l' i=true:=by
 simp only [FM,Bool.and_eq_true] at h
 obtain ⟨⟨⟨⟨⟨h1,h2⟩,h3⟩,h4⟩,h5⟩,h6⟩:=h
 have h7:=D3 h3 hT
 have h8:=EN h6
 subst hT
 simp only [E3,Bool.and_eq_true]
 exact ⟨⟨⟨⟨⟨h1,by rw [Et]; exact h2⟩,h7⟩,by rw [FF]; exact h4⟩,by rw [last_eq]; exact h5⟩,h8⟩
theorem Bi (hT:rtab md ops=T) (h:(DK T.2 l.toList==[i]&&l.toList.set i true==l'.toList)=true):Dn md ops l l' i=true:=by
 simp only [Bool.and_eq_true] at h
 obtain ⟨h1,h2⟩:=h
 subst hT
 simp only [Dn,Bool.and_eq_true]
 exact ⟨by rw [DJ]; exact h1,EN h2⟩
theorem Bm (hT:rtab md ops=T) (h:(DK T.2 l.toList==[])=true):(Region.ready md ops l==[])=true:=by
 subst hT
 rw [DJ]
 exact h
def upM (B:List Nat) (d:Nat):List Nat→Nat
 |[]=>0
 |n::r=>(2^n|||(if n<d then B.getD n 0 else 0))|||upM B d r
def Bz (T:List (List Nat×List Nat)) (B:List Nat):Bool:=(List.range T.length).all fun d=>match T[d]? with
 |some r=>(B.getD d 0|||upM B d r.1)==upM B d r.1
 |none=>false
theorem Ee {B:List Nat} {d i:Nat} :∀ {ns:List Nat},(upM B d ns).testBit i=true→∃n∈ns,n=i∨(n<d∧(B.getD n 0).testBit i=true)
  |[],h=>by simp [upM] at h
  | n ::r,h=>by
    unfold upM at h
    rw [Nat.testBit_or,Nat.testBit_or,Bool.or_eq_true,Bool.or_eq_true] at h
    rcases h with (h|h)|h
    · rw [Nat.testBit_two_pow] at h
      exact ⟨n,List.mem_cons_self,.inl (by simpa using h)⟩
    · by_cases hn:n<d
      · rw [if_pos hn] at h
        exact ⟨n,List.mem_cons_self,.inr ⟨hn,h⟩⟩
      · rw [if_neg hn] at h
        simp at h
    · obtain ⟨m,hm,h2⟩:=Ee h
      exact ⟨m,List.mem_cons_of_mem _ hm,h2⟩
theorem Df {T:List (List Nat×List Nat)} {B:List Nat} (hB:Bz T B=true):∀(fuel d:Nat),d<fuel→d<T.length→(B.getD d 0).testBit i=true→Cw T i fuel d=true
 |0,d,h,_,_=>by omega
 | fuel+1,d,h,hd,hb=>by
  have h1:=List.all_eq_true.1 hB d (List.mem_range.2 hd)
  cases hr:T[d]? with
  |none=>rw [hr] at h1; simp at h1
  | some r=>
   rw [hr] at h1
   simp only [beq_iff_eq] at h1
   have h2:(upM B d r.1).testBit i=true:=by rw [←h1,Nat.testBit_or,hb,Bool.true_or]
   obtain ⟨n,hn,h3⟩:=Ee h2
   unfold Cw
   rw [hr]
   simp only
   rw [List.any_eq_true]
   refine ⟨n,hn,?_⟩
   rcases h3 with rfl|⟨h4,h5⟩
   ·simp
   ·rw [Df hB fuel n zI zI h5,Bool.or_true]
def lastW (T:List (List Nat×List Nat)) (B:List Nat) (l:List Bool) (ds:List Nat) (i:Nat):Bool:=ds.all fun d=>l.getD d true||(decide (d<T.length)&&(B.getD d 0).testBit i)
def takeW (T:Bool×List (List Nat×List Nat)) (B:List Nat) (ds:List Nat) (l l':List Bool) (i:Nat):Bool:=T.1&&EF T.2 l i&&CJ T.2 l i&&DD T.2 l&&lastW T.2 B l ds i&&(l.set i true==l')
theorem B4 {B:List Nat} (hT:rtab md ops=T) (hB:Bz T.2 B=true) (h:takeW T B ds l.toList l'.toList i=true):E3 md ops ds l l' i=true:=by
 refine take_of hT ?_
 simp only [takeW,FM,Bool.and_eq_true] at h ⊢
 obtain ⟨⟨⟨⟨⟨h1,h2⟩,h3⟩,h4⟩,h5⟩,h6⟩:=h
 refine ⟨⟨⟨⟨⟨h1,h2⟩,h3⟩,h4⟩,?_⟩,h6⟩
 unfold lastW at h5
 unfold Eq
 rw [List.all_eq_true] at h5 ⊢
 intro d hd
 have h7:=h5 d hd
 rw [Bool.or_eq_true,Bool.and_eq_true,decide_eq_true_eq] at h7
 rcases h7 with h7|⟨h8,h9⟩
 ·rw [h7,Bool.true_or]
 ·rw [Df hB _ d h8 h8 h9,Bool.or_true]
theorem BU {P:Program} {Q:Exit→Act→World→Prop} {S:World→Prop} {n:Nat} {a:Act} {w:World} {B:List Nat} (hT:rtab md ops=T) (hB:Bz T.2 B=true) (h:Aside0 (rtab md ops=T)→Aside0 (Bz T.2 B=true)→BJ P md ops Q S ds n l a w):BJ P md ops Q S ds n l a w:=h ⟨hT⟩ ⟨hB⟩
end
def Cb:Code→Nat→Option (Array Oper)
 | .region id ops _,k=>if id==k then some ops else none
 | .seq a b,k=>match Cb a k with
  |some o=>some o
  |none=>Cb b k
 | .cond _ a b,k=>match Cb a k with
  |some o=>some o
  |none=>Cb b k
 | .block _ c,k=>Cb c k
 | .loop c,k=>Cb c k
 | .scope c,k=>Cb c k
 | .rangeFunc _ _ a b,k=>match Cb a k with
  |some o=>some o
  |none=>Cb b k
 |_,_=>none
def Cq (f:Func) (k:Nat):Array Oper:=((f.body.bind fun c=>Cb c k)).getD #[]
end Go.Proofs.YtdadecjefafflaaDoorW.PrintLast
end
section
namespace Go.Proofs.YtdadecjefafflaaDoorW.PrintWords
set_option maxRecDepth 100000
open Go.RowKit
namespace Kd
def tag {α:Type} (f:Nat→Nat) (d:Kd α):Kd (α×Nat) where
 sz:=d.sz
 E:=d.E
 K:=fun w x cs=>d.K w x.1 cs
 M:=fun w base ok x cs=>d.M w base (fun k=>ok k∧f k=x.2) x.1 cs
 K_len:=fun h=>d.K_len h
 K_one:=fun h=>d.K_one h
 K_below:=fun hb h=>d.K_below hb h
 K_of_M:=fun h=>d.K_of_M h
 M_mono:=fun hok h=>d.M_mono (fun k hk=>⟨hok k hk.1,hk.2⟩) h
 M_bound:=fun h=>d.M_mono (fun _ hk=>⟨⟨hk.1.1,hk.2⟩,hk.1.2⟩) (d.M_bound h)
 M_move:=fun hm h=>d.M_move (fun k hk=>hm k hk.1) h
 M_lower:=fun hb h=>d.M_lower hb h
def bare {α:Type} (d:Kd α):Kd α where
 sz:=d.sz
 E:=d.E
 K:=d.K
 M:=fun w base _ x cs=>d.M w base (fun _=>False) x cs
 K_len:=fun h=>d.K_len h
 K_one:=fun h=>d.K_one h
 K_below:=fun hb h=>d.K_below hb h
 K_of_M:=fun h=>d.K_of_M h
 M_mono:=fun _ h=>h
 M_bound:=fun h=>h
 M_move:=fun _ h=>d.M_move (fun _ hk=>hk.elim) h
 M_lower:=fun hb h=>d.M_lower hb h
def raw (sz:Nat):Kd (List Value) where
 sz:=sz
 E:=[]
 K:=fun _ x cs=>cs=x∧cs.length=sz∧∀u∈cs,u.oneCell'=true
 M:=fun _ _ _ x cs=>cs=x∧cs.length=sz∧∀u∈cs,u.oneCell'=true
 K_len:=fun h=>h.2.1
 K_one:=fun h=>h.2.2
 K_below:=fun _ h=>h
 K_of_M:=fun h=>h
 M_mono:=fun _ h=>h
 M_bound:=fun h=>h
 M_move:=fun _ h=>h
 M_lower:=fun _ h=>h
def S {α:Type} (d:Kd α) (e:Nat) (w:World) (base:Nat) (ok:Nat→Prop) (v:Value) (xs:List α):Prop:=∃f,(tag f d).R e w base ok v xs.zipIdx
section
variable {α β:Type} {d:Kd α} {d':Kd β} {e e':Nat} {w w1 W:World} {base b:Nat} {ok ok' okv oku:Nat→Prop} {u v:Value} {xs:List α} {ys:List β}
theorem zip_at {xs:List α} {j:Nat} {p:α} (h:xs[j]? =some p):xs.zipIdx[j]? =some (p,j):=by rw [List.getElem?_zipIdx,h,Nat.zero_add]; rfl
theorem S_R (h:S d e w base ok v xs):d.R e w base ok v xs:=by
 obtain ⟨f,h0,inner,ho,hr⟩:=h
 rw [List.length_zipIdx] at ho
 exact ⟨h0,inner,ho,by have:=hr.1; rw [List.length_zipIdx] at this; exact this,fun j p hj=>d.M_mono (fun _ hk=>hk.1) (hr.2 j (p,j) (zip_at hj))⟩
theorem R_tight (hE:d.E=[]) (h:d.R e w base ok v xs):d.R e w base (fun k=>some k=v.ownBlock) v xs:=by
 obtain ⟨h0,inner,ho,hr⟩:=h
 refine ⟨fun k hk=>hk.symm,inner,ho,hr.imp_ (fun p c hp=>d.M_mono (fun k hk=> ?_) (d.M_bound hp))⟩
 obtain ⟨_,_,_,q,hq,_⟩:=hk
 rw [hE] at hq
 cases hq
theorem S_nil (d:Kd α) (e:Nat) (w:World) (base:Nat) (ok:Nat→Prop):S d e w base ok (.slice none 0 0) []:=⟨fun _=>0,R_nil _ _ _ _ _⟩
theorem S_mono (h:S d e w base ok v xs) (hok:∀k,ok k→ok' k):S d e w base ok' v xs:=by
 obtain ⟨f,h⟩:=h
 exact ⟨f,R_mono h hok⟩
theorem S_bound (h:S d e w base ok v xs):S d e w base (fun k=>ok k∧base≤k∧k<w.heap.size∧∃q,q∈e::d.E∧∃cells,w.heap[k]? =some (.cells cells q (0,0))) v xs:=by
 obtain ⟨f,h⟩:=h
 exact ⟨f,R_bound h⟩
theorem S_move (h:S d e w base ok v xs) (hm:∀k,ok k→w1.heap[k]? =w.heap[k]?):S d e w1 base ok v xs:=by
 obtain ⟨f,h⟩:=h
 exact ⟨f,R_move h hm⟩
theorem S_lower {base':Nat} (h:S d e w base ok v xs) (hb:base'≤base):S d e w base' ok v xs:=by
 obtain ⟨f,h⟩:=h
 exact ⟨f,R_lower h hb⟩
theorem Fr (h:S d e w base ok v xs) (hm:∀k,ok k→k<w.heap.size→w1.heap[k]? =w.heap[k]?):S d e w1 base ok v xs:=
 S_mono (S_move (S_bound h) (fun k hk=>hm k hk.1 hk.2.2.1)) (fun _ hk=>hk.1)
theorem S_below (h:S d e w base ok v xs) (hb:Below w.heap.size w w1):S d e w1 base ok v xs:=Fr h (fun k _ hk=>hb.block k hk)
theorem S_alloc (h:S d e w base ok v xs) (o:Obj):S d e (w.alloc o) base ok v xs:=S_below h (AE (Below.refl _ _) o)
theorem S_drew (h:S d e w base ok v xs):S d e w.drew base ok v xs:=S_below h (CG (Below.refl _ _))
theorem S_drewN (h:S d e w base ok v xs) (m:Nat):S d e (w.drewN m) base ok v xs:=S_below h (AC (Below.refl _ _) m)
theorem S_far (h:S d e w base ok v xs) {p:Addr} (hok:∀k,ok k→k≠p.block) (u:Value):S d e (w.setCell p u) base ok v xs:=Fr h (fun k ho _=>Below.heap_setCell w p u k (hok k ho))
theorem S_types (h:S d e w base ok v xs) {g t:Nat} {cells:Array Value} (hb:w.heap[g]? =some (.cells cells t (0,0))) (ht:∀q,q∈e::d.E→q≠t):S d e w base (fun k=>ok k∧k≠g) v xs:=by
 obtain ⟨f,h⟩:=h
 exact ⟨f,R_types h hb ht⟩
theorem S_elder' (h:S d e W base ok u xs) (hbase:∀k,v.ownBlock=some k→W.heap.size≤k) (hb:Below W.heap.size W w1):S d e w1 base (fun k=>ok k∧some k≠v.ownBlock) u xs:=by
 obtain ⟨f,h⟩:=h
 exact ⟨f,R_elder' h hbase hb⟩
theorem S_bare (h:(bare d).R e w base ok v xs):S d e w base ok v xs:=by
 obtain ⟨h0,inner,ho,hr⟩:=h
 refine ⟨fun _=>0,h0,inner,by rw [List.length_zipIdx]; exact ho,by rw [List.length_zipIdx]; exact hr.1,fun j p hj=> ?_⟩
 rw [List.getElem?_zipIdx,Nat.zero_add] at hj
 obtain ⟨x,hx,rfl⟩:=Option.map_eq_some_iff.1 hj
 exact d.M_mono (fun _ hk=>hk.elim) (hr.2 j x hx)
end
section
variable {α β:Type} {d:Kd α} {d':Kd β} {e e' g:Nat} {w w1 W:World} {base b:Nat} {ok ok' okv oku:Nat→Prop} {u v:Value} {xs:List α} {ys:List β}
theorem S_slice (h:S d e w base ok v xs):∃A c,v= .slice A xs.length c:=R_slice (S_R h)
theorem S_reads' {A:Option Addr} {n c:Nat} (h:S d e w base ok (.slice A n c) xs):n=xs.length∧n≤c∧d.C w A xs.length xs:=R_reads' (S_R h)
end
section
variable {P:Program} {ops:Array Oper} {rest:List Oper} {o:Oper} {a:Act} {Q:Exit→Act→World→Prop} {Kc:Act→World→Prop} {α:Type}
theorem S_lit (d:Kd α) {w0 W:World} (base e:Nat) (hgd:o.guard=none) {N:Tmp} (_hd:o.dst=some N) {xs:List α} {inner:List Value} {ok okp:Nat→Prop}
  (hrun:(execOp a.eval o).run P W= .ok (.value (.slice (some ⟨W.heap.size,0,none⟩) xs.length xs.length)) (W.alloc (.cells inner.toArray e)))
  (hrep:Reps (d.M W base (fun _=>False)) d.sz xs inner) (_hok:∀k,okp k→ok k) (hfresh:ok W.heap.size) (HB:Below base w0 W) (hbase:base≤W.heap.size) (hm:xs.length≤9223372036854775807)
  (h:∀v1 w1,S d e w1 base ok v1 xs→Below base w0 w1→W.grownBy w1 none→(∃b,v1.ownBlock=some b∧W.heap.size≤b)→wpList P ops Q rest (a.put o.dst v1) w1):wpList P ops Q (o::rest) a W:=
 R_lit (bare d) base e hgd _hd (ok:=ok) (okp:=ok) hrun hrep (fun _ hk=>hk) hfresh HB hbase hm (fun v1 w1 hr=>h v1 w1 (S_bare hr))
end
def gap {α:Type} (f:Nat→Nat) (d:Kd α) (i:Nat) (c:List Value):Kd (α×Nat) where
 sz:=d.sz
 E:=d.E
 K:=fun w x cs=>(x.2=i→cs=c∧cs.length=d.sz∧∀u∈cs,u.oneCell'=true)∧(x.2≠i→d.K w x.1 cs)
 M:=fun w base ok x cs=>(x.2=i→cs=c∧cs.length=d.sz∧∀u∈cs,u.oneCell'=true)∧(x.2≠i→d.M w base (fun k=>ok k∧f k=x.2) x.1 cs)
 K_len:=fun {w x cs} h=>by
  by_cases hx:x.2=i
  ·exact (h.1 hx).2.1
  ·exact d.K_len (h.2 hx)
 K_one:=fun {w x cs} h=>by
  by_cases hx:x.2=i
  ·exact (h.1 hx).2.2
  ·exact d.K_one (h.2 hx)
 K_below:=fun hb h=>⟨h.1,fun hx=>d.K_below hb (h.2 hx)⟩
 K_of_M:=fun h=>⟨h.1,fun hx=>d.K_of_M (h.2 hx)⟩
 M_mono:=fun hok h=>⟨h.1,fun hx=>d.M_mono (fun k hk=>⟨hok k hk.1,hk.2⟩) (h.2 hx)⟩
 M_bound:=fun h=>⟨h.1,fun hx=>d.M_mono (fun _ hk=>⟨⟨hk.1.1,hk.2⟩,hk.1.2⟩) (d.M_bound (h.2 hx))⟩
 M_move:=fun hm h=>⟨h.1,fun hx=>d.M_move (fun k hk=>hm k hk.1) (h.2 hx)⟩
 M_lower:=fun hb h=>⟨h.1,fun hx=>d.M_lower hb (h.2 hx)⟩
def H {α:Type} (d:Kd α) (e:Nat) (w:World) (base:Nat) (ok:Nat→Prop) (v:Value) (xs:List α) (i:Int) (oki:Nat→Prop) (c:List Value):Prop:=
 (∀k,oki k→ok k)∧∃f,(gap f d i.toNat c).R e w base (fun k=>ok k∧¬oki k) v xs.zipIdx
section
variable {α β:Type} {d:Kd α} {e e' g n cap:Nat} {w w1 W:World} {base:Nat} {ok ok' oki okp:Nat→Prop} {u v:Value} {xs:List α} {i:Int} {c:List Value}
end
section
variable {P:Program} {ops:Array Oper} {rest:List Oper} {o:Oper} {a:Act} {Q:Exit→Act→World→Prop} {α:Type}
end
end Kd
end Go.Proofs.YtdadecjefafflaaDoorW.PrintWords
end
section
namespace Go.Proofs.YtdadecjefafflaaDoorW.PrintWords
set_option maxRecDepth 100000
open Go.RowKit
namespace Kd
structure Heap {α:Type} (d:Kd α):Prop where
 K:∀ {w w1:World} {x:α} {cs:List Value},(∀k,k<w.heap.size→w1.heap[k]? =w.heap[k]?)→d.K w x cs→d.K w1 x cs
theorem FI {w w1:World} (hb:∀k,k<w.heap.size→w1.heap[k]? =w.heap[k]?) {a:Addr} {v:Value} (h:w.cell? a=some v):w1.cell? a=some v:=by
 have:=hb a.block (World.block_lt_of_cell? w a h)
 simpa [World.cell?,this] using h
theorem Heap.C {α:Type} {d:Kd α} (hd:Heap d) {w w1:World} {A:Option Addr} {n:Nat} {xs:List α} (hb:∀k,k<w.heap.size→w1.heap[k]? =w.heap[k]?) (h:d.C w A n xs):d.C w1 A n xs:=
 ⟨h.1,h.2.1,fun hn=>by
  obtain ⟨ad,e,hc⟩:=h.2.2 hn
  refine ⟨ad,e,fun j p hj=> ?_⟩
  obtain ⟨c,hs,hr,hcell⟩:=hc j p hj
  exact ⟨c,hs,hd.K hb hr,fun i u hu=>FI hb (hcell i u hu)⟩⟩
theorem heap_int (k:IntKind):Heap (Kd.int k):=⟨fun _ h=>h⟩
theorem heap_string:Heap Kd.string:=⟨fun _ h=>h⟩
theorem heap_slice {α:Type} {d:Kd α} (e:Nat) (hd:Heap d):Heap (slice e d):=⟨by
 rintro w w1 x cs hb ⟨A,c,rfl,hl,hr⟩
 exact ⟨A,c,rfl,hl,hd.C hb hr⟩⟩
theorem heap_pair {α β:Type} {a:Kd α} {b:Kd β} (ha:Heap a) (hb':Heap b):Heap (pair a b):=⟨by
 rintro w w1 x cs hb ⟨c0,c1,rfl,h0,h1⟩
 exact ⟨c0,c1,rfl,ha.K hb h0,hb'.K hb h1⟩⟩
theorem heap_iso {α β:Type} {d:Kd α} (f:β→α) (hd:Heap d):Heap (iso d f):=⟨fun hb h=>hd.K hb h⟩
section
variable {α:Type} {d:Kd α} {e base g n c:Nat} {ok:Nat→Prop} {w w0 W:World} {A:Option Addr} {xs:List α}
end
end Kd
end Go.Proofs.YtdadecjefafflaaDoorW.PrintWords
end
section
namespace Go.Proofs.YtdadecjefafflaaDoorW.PrintWords
set_option maxRecDepth 100000
open Go.RowKit
def Kept (w W:World) (S:Nat→Prop):Prop:=w.heap.size≤W.heap.size∧∀i,i<w.heap.size→¬S i→W.heap[i]? =w.heap[i]?
section
variable {w W W2:World} {S S2 S':Nat→Prop}
theorem Kept.refl (w:World) (S:Nat→Prop):Kept w w S:=⟨Nat.le_refl _,fun _ _ _=>rfl⟩
theorem Kept.of_below (h:Below w.heap.size w W) (S:Nat→Prop):Kept w W S:=⟨h.size,fun i hi _=>h.block i hi⟩
theorem Kept.then_ (h:Kept w W S) (k:Kept W W2 S2) (hs:∀k,S2 k→S k∨w.heap.size≤k):Kept w W2 S:=
 ⟨Nat.le_trans h.1 k.1,fun i hi hn=>(k.2 i (Nat.lt_of_lt_of_le hi h.1) (fun h2=>(hs i h2).elim hn (fun h3=>by omega))).trans (h.2 i hi hn)⟩
theorem Kept.below (h:Kept w W S) (hb:Below W.heap.size W W2):Kept w W2 S:=h.then_ (Kept.of_below hb (fun _=>False)) (fun _ hk=>hk.elim)
theorem Kept.alloc (h:Kept w W S) (o:Obj):Kept w (W.alloc o) S:=h.below (AE (Below.refl _ _) o)
theorem Kept.drew (h:Kept w W S):Kept w W.drew S:=h
theorem Kept.setCell (h:Kept w W S) {p:Addr} (hp:S p.block∨w.heap.size≤p.block) (u:Value):Kept w (W.setCell p u) S:=
 h.then_ (S2:=fun k=>k=p.block) ⟨by simp [World.setCell],fun i _ hn=>Below.heap_setCell W p u i hn⟩ (fun k hk=>by rw [hk]; exact hp)
theorem FH {a:Addr} {v:Value} (hc:W.cell? a=some v) (hk:Kept W W2 S) (hne:¬S a.block):W2.cell? a=some v:=by
 have:=hk.2 a.block (World.block_lt_of_cell? W a hc) hne
 simpa [World.cell?,this] using hc
end
namespace Kd
section
variable {α:Type} {d:Kd α} {e base n c:Nat} {ok oki S S2:Nat→Prop} {w w0 W W1 W2:World} {v:Value} {A:Option Addr} {xs:List α} {i:Int} {cs:List Value}
end
end Kd
end Go.Proofs.YtdadecjefafflaaDoorW.PrintWords
end
section
namespace Go.Proofs.YtdadecjefafflaaDoorW.PrintWords
set_option maxRecDepth 100000
open Go.RowKit
def Foot (P:World→Prop) (W:World) (ok:Nat→Prop):Prop:=∀W':World,(∀k,ok k→k<W.heap.size→W'.heap[k]? =W.heap[k]?)→P W'
theorem heap_lt {W W1:World} {k:Nat} (h:W1.heap[k]? =W.heap[k]?) (hlt:k<W.heap.size):k<W1.heap.size:=by
 rw [Array.getElem?_eq_getElem hlt] at h
 exact (Array.getElem?_eq_some_iff.1 h).1
namespace Foot
variable {P Q:World→Prop} {W W1:World} {ok ok':Nat→Prop}
theorem now (h:Foot P W ok):P W:=h W (fun _ _ _=>rfl)
theorem mono (h:Foot P W ok) (hok:∀k,ok k→ok' k):Foot P W ok':=fun W' hW=>h W' (fun k hk hlt=>hW k (hok k hk) hlt)
theorem bound (h:Foot P W ok):Foot P W (fun k=>ok k∧k<W.heap.size):=fun W' hW=>h W' (fun k hk hlt=>hW k ⟨hk,hlt⟩ hlt)
theorem step (h:Foot P W ok) (hm:∀k,ok k→k<W.heap.size→W1.heap[k]? =W.heap[k]?):Foot P W1 ok:=fun W' hW=>h W' (fun k hk hlt=>(hW k hk (heap_lt (hm k hk hlt) hlt)).trans (hm k hk hlt))
theorem imp (h:Foot P W ok) (hi:∀W',P W'→Q W'):Foot Q W ok:=fun W' hW=>hi W' (h W' hW)
end Foot
namespace Kd
def F {α:Type} (d:Kd α) (W:World) (ok:Nat→Prop) (A:Option Addr) (n:Nat) (xs:List α):Prop:=Foot (fun W=>d.C W A n xs) W ok
def FK {α:Type} (d:Kd α) (W:World) (ok:Nat→Prop) (x:α) (c:List Value):Prop:=Foot (fun W=>d.K W x c) W ok
section
variable {α β:Type} {d:Kd α} {e base n n' cc g N:Nat} {ok ok' okp S:Nat→Prop} {w w0 w1 W W1:World} {A A':Option Addr} {u v v1:Value} {xs:List α} {xs':List β} {d':Kd β} {x:α} {c:List Value}
theorem F_now (h:F d W ok A n xs):d.C W A n xs:=Foot.now h
theorem Ec (h:F d W ok A n xs) (hok:∀k,ok k→ok' k):F d W ok' A n xs:=Foot.mono h hok
theorem F2 (h:F d W ok A n xs):F d W (fun k=>ok k∧k<W.heap.size) A n xs:=Foot.bound h
theorem Fw (h:F d W ok A n xs) (hm:∀k,ok k→k<W.heap.size→W1.heap[k]? =W.heap[k]?):F d W1 ok A n xs:=Foot.step h hm
theorem F_below (h:F d W ok A n xs) (hb:Below W.heap.size W W1):F d W1 ok A n xs:=Fw h (fun k _ hlt=>hb.block k hlt)
theorem F_alloc (h:F d W ok A n xs) (o:Obj):F d (W.alloc o) ok A n xs:=F_below h (AE (Below.refl _ _) o)
theorem F_drew (h:F d W ok A n xs):F d W.drew ok A n xs:=F_below h (CG (Below.refl _ _))
theorem F_drewN (h:F d W ok A n xs) (m:Nat):F d (W.drewN m) ok A n xs:=F_below h (AC (Below.refl _ _) m)
theorem F_far (h:F d W ok A n xs) {p:Addr} (hok:∀k,ok k→k≠p.block) (u:Value):F d (W.setCell p u) ok A n xs:=Fw h (fun k hk _=>Below.heap_setCell W p u k (hok k hk))
theorem F_nil (d:Kd α) (W:World) (ok:Nat→Prop):F d W ok none ([]:List α).length []:=fun W' _=>C_nil d W'
theorem Fx (h:F d W ok A n xs) (a:Nat) (ha:W.heap.size≤a):F d W (fun k=>ok k∧k≠a) A n xs:=Ec (F2 h) (fun k hk=>⟨hk.1,by have:=hk.2; omega⟩)
theorem F_after (h:F d W (fun k=>ok k∧some k≠v.ownBlock) A n xs) (hg:W.grownBy W1 v.ownBlock) (hat:v1.ownBlock=v.ownBlock∨∃b,v1.ownBlock=some b∧W.heap.size≤b):F d W1 (fun k=>ok k∧some k≠v1.ownBlock) A n xs:=by
 refine Ec (Foot.step (F2 h) (fun k hk hlt=>hg.block k hlt hk.1.2)) (fun k hk=>⟨hk.1.1,?_⟩)
 rcases hat with hat|⟨b,hb,hle⟩
 ·rw [hat]; exact hk.1.2
 ·rw [hb]
  intro he
  injection he with he
  have:=hk.2
  omega
theorem C_F (hd:Heap d) (h:d.C w A n xs):F d w (fun k=>k<w.heap.size) A n xs:=fun _ hW=>hd.C (fun k hlt=>hW k hlt hlt) h
theorem FK_now (h:FK d W ok x c):d.K W x c:=Foot.now h
theorem Dy (h:FK d W ok x c) (hok:∀k,ok k→ok' k):FK d W ok' x c:=Foot.mono h hok
theorem EK (h:FK d W ok x c):FK d W (fun k=>ok k∧k<W.heap.size) x c:=Foot.bound h
theorem F3 (h:FK d W ok x c) (hm:∀k,ok k→k<W.heap.size→W1.heap[k]? =W.heap[k]?):FK d W1 ok x c:=Foot.step h hm
theorem FK_of_M (h:d.M W base ok x c):FK d W ok x c:=fun _ hW=>d.K_of_M (Fu h hW)
theorem emptied (W:World) (g:Nat):∃W':World,(∀k,k≠g→W'.heap[k]? =W.heap[k]?)∧∀a:Addr,a.block=g→W'.cell? a=none:=by
 refine ⟨{W with heap:=W.heap.setIfInBounds g (.cells #[] 0)},fun k hk=>by simp [Ne.symm hk],fun a ha=> ?_⟩
 subst ha
 by_cases hlt:a.block<W.heap.size
 ·simp [World.cell?,hlt]
 ·simp [World.cell?,hlt]
end
end Kd
end Go.Proofs.YtdadecjefafflaaDoorW.PrintWords
end
section
namespace Go.Proofs.YtdadecjefafflaaDoorW.PrintWords
set_option maxRecDepth 100000
open Go.RowKit
namespace Kd
def chunks (sz:Nat) (n:Nat) (inner:List Value):List (List Value):=(List.range n).map fun j=>(inner.drop (j*sz)).take sz
theorem C2 (sz n:Nat) (inner:List Value):(chunks sz n inner).length=n:=by simp [chunks]
theorem FG {sz n:Nat} {inner:List Value} {j:Nat} (hj:j<n):(chunks sz n inner)[j]? =some ((inner.drop (j*sz)).take sz):=by simp [chunks,hj]
theorem DR {sz n:Nat} {inner:List Value} {j:Nat} {c:List Value} (h:(chunks sz n inner)[j]? =some c):c=(inner.drop (j*sz)).take sz:=by
 have hj:j<n:=by have:=(List.getElem?_eq_some_iff.1 h).1; rwa [C2] at this
 rw [FG hj] at h
 injection h with h
 exact h.symm
theorem FQ {α:Type} {Rr:α→List Value→Prop} {sz:Nat} {xs:List α} {inner:List Value} (h:Reps Rr sz xs inner) (hR:∀x c,Rr x c→c.length=sz∧∀u∈c,u.oneCell'=true):Reps (fun x cs=>cs=x∧cs.length=sz∧∀u∈cs,u.oneCell'=true) sz (chunks sz xs.length inner) inner:=by
 refine ⟨by rw [C2]; exact h.1,fun j p hj=> ?_⟩
 have hjl:j<xs.length:=by have:=(List.getElem?_eq_some_iff.1 hj).1; rwa [C2] at this
 have hp:=DR hj
 exact ⟨hp.symm,hR _ _ (h.2 j _ (List.getElem?_eq_getElem hjl))⟩
section
variable {α:Type} {d:Kd α} {e base n cc g:Nat} {ok ok' okp S:Nat→Prop} {w w1 W W1:World} {A:Option Addr} {u v v1:Value} {xs:List α} {x:α} {c:List Value}
theorem F_get (h:F d W ok A n xs) (z:α) (i:Int) (h0:0≤i) (h1:i<n):
  ∃ad c,A=some ad∧c.length=d.sz∧FK d W ok (xs.getD i.toNat z) c∧(∀j u,c[j]? =some u→W.cell? (ad.add (i.toNat*d.sz+j))=some u)∧(0<d.sz→ok ad.block):=by
 obtain ⟨ad,c,rfl,hcl,hK,hcc⟩:=C_get (F_now h) z i h0 h1
 have hin:0<d.sz→ok ad.block:=by
  intro hs
  by_cases hk:ok ad.block
  ·exact hk
  ·obtain ⟨W',h2,h3⟩:=emptied W ad.block
   obtain ⟨ad',c',he,hcl',_,hcc'⟩:=C_get (h W' (fun k hk' _=>h2 k (fun e=>hk (e▸hk')))) z i h0 h1
   injection he with he
   subst he
   have h4:=hcc' 0 _ (List.getElem?_eq_getElem zI)
   rw [h3 _ (BH _ _)] at h4
   cases h4
 refine ⟨ad,c,rfl,hcl,fun W' hW=> ?_,hcc,hin⟩
 obtain ⟨ad',c',he,hcl',hK',hcc'⟩:=C_get (h W' hW) z i h0 h1
 injection he with he
 subst he
 have hc:c=c':=by
  apply List.ext_getElem?
  intro j
  by_cases hj:j<d.sz
  ·have hb:W'.heap[ad.block]? =W.heap[ad.block]? :=by
    have h5:=hcc j _ (List.getElem?_eq_getElem zI)
    have h6:=World.block_lt_of_cell? W _ h5
    rw [BH] at h6
    exact hW _ (hin zI) h6
   have h5:=hcc j _ (List.getElem?_eq_getElem zI)
   have h6:=hcc' j _ (List.getElem?_eq_getElem zI)
   have h7:W'.cell? (ad.add (i.toNat*d.sz+j))=W.cell? (ad.add (i.toNat*d.sz+j)):=by simp [World.cell?,BH,hb]
   rw [h7,h5] at h6
   rw [List.getElem?_eq_getElem zI,List.getElem?_eq_getElem zI]
   exact h6
  ·rw [List.getElem?_eq_none zI,List.getElem?_eq_none zI]
 rw [hc]
 exact hK'
def N {α:Type} (d:Kd α) (e:Nat) (w:World) (base:Nat) (ok:Nat→Prop) (v:Value) (xs:List α):Prop:=
 (∀k,v.ownBlock=some k→ok k)∧∃rows:List (List Value),rows.length=xs.length∧(raw d.sz).R e w base (fun k=>some k=v.ownBlock) v rows∧∀(j:Nat) (x:α) (c:List Value),xs[j]? =some x→rows[j]? =some c→FK d w (fun k=>ok k∧some k≠v.ownBlock) x c
theorem F5 {sz:Nat} {rows:List (List Value)} (h:(raw sz).R e w base ok v rows):(raw sz).R e w base (fun k=>some k=v.ownBlock) v rows:=R_tight rfl h
theorem raw_any {sz:Nat} {rows:List (List Value)} (h:(raw sz).R e w base ok v rows):(raw sz).R e w base (fun _=>True) v rows:=R_mono h (fun _ _=>trivial)
theorem R_N (h:d.R e w base ok v xs):N d e w base ok v xs:=by
 obtain ⟨h0,inner,ho,hr⟩:=h
 refine ⟨h0,chunks d.sz xs.length inner,C2 _ _ _,⟨fun k hk=>hk.symm,inner,by rw [C2]; exact ho,FQ hr (fun x c hp=>⟨d.K_len (d.K_of_M hp),d.K_one (d.K_of_M hp)⟩)⟩,fun j x c hx hc=> ?_⟩
 rw [DR hc]
 exact FK_of_M (hr.2 j x hx)
theorem N_nil (d:Kd α) (e:Nat) (w:World) (base:Nat) (ok:Nat→Prop):N d e w base ok (.slice none 0 0) []:=R_N (R_nil _ _ _ _ _)
theorem N_mono (h:N d e w base ok v xs) (hok:∀k,ok k→ok' k):N d e w base ok' v xs:=by
 obtain ⟨h0,rows,hl,hR,hf⟩:=h
 exact ⟨fun k hk=>hok k (h0 k hk),rows,hl,hR,fun j x c hx hc=>Dy (hf j x c hx hc) (fun k hk=>⟨hok k hk.1,hk.2⟩)⟩
theorem N_lt (h:N d e w base ok v xs):∀k,v.ownBlock=some k→k<w.heap.size:=by
 obtain ⟨_,rows,_,hR,_⟩:=h
 exact R_lt hR
theorem N_base (h:N d e w base ok v xs):∀k,v.ownBlock=some k→base≤k:=by
 obtain ⟨_,rows,_,hR,_⟩:=h
 exact R_base hR
theorem N_ne (h:N d e w base ok v xs) {t:Nat} {cells:Array Value} (hb:w.heap[g]? =some (.cells cells t (0,0))) (ht:e≠t):some g≠v.ownBlock:=by
 obtain ⟨_,rows,_,hR,_⟩:=h
 exact R_ne hR hb ht
theorem F1 (h:N d e w base ok v xs):N d e w base (fun k=>ok k∧k<w.heap.size) v xs:=by
 have hlt:=N_lt h
 obtain ⟨h0,rows,hl,hR,hf⟩:=h
 exact ⟨fun k hk=>⟨h0 k hk,hlt k hk⟩,rows,hl,hR,fun j x c hx hc=>Dy (EK (hf j x c hx hc)) (fun k hk=>⟨⟨hk.1.1,hk.2⟩,hk.1.2⟩)⟩
theorem N_lower {base':Nat} (h:N d e w base ok v xs) (hb:base'≤base):N d e w base' ok v xs:=by
 obtain ⟨h0,rows,hl,hR,hf⟩:=h
 exact ⟨h0,rows,hl,R_lower hR hb,hf⟩
theorem Ft (h:N d e w base ok v xs) (hm:∀k,ok k→k<w.heap.size→w1.heap[k]? =w.heap[k]?):N d e w1 base ok v xs:=by
 obtain ⟨h0,rows,hl,hR,hf⟩:=h
 exact ⟨h0,rows,hl,Ea hR (fun k hk hlt=>hm k (h0 k hk.symm) hlt),fun j x c hx hc=>F3 (hf j x c hx hc) (fun k hk hlt=>hm k hk.1 hlt)⟩
theorem N_below (h:N d e w base ok v xs) (hb:Below w.heap.size w w1):N d e w1 base ok v xs:=Ft h (fun k _ hk=>hb.block k hk)
theorem N_alloc (h:N d e w base ok v xs) (o:Obj):N d e (w.alloc o) base ok v xs:=N_below h (AE (Below.refl _ _) o)
theorem N_drew (h:N d e w base ok v xs):N d e w.drew base ok v xs:=N_below h (CG (Below.refl _ _))
theorem N_drewN (h:N d e w base ok v xs) (m:Nat):N d e (w.drewN m) base ok v xs:=N_below h (AC (Below.refl _ _) m)
theorem N_far (h:N d e w base ok v xs) {p:Addr} (hok:∀k,ok k→k≠p.block) (u:Value):N d e (w.setCell p u) base ok v xs:=Ft h (fun k ho _=>Below.heap_setCell w p u k (hok k ho))
theorem N_elder' (h:N d e W base ok v xs) (hbase:∀k,u.ownBlock=some k→W.heap.size≤k) (hb:Below W.heap.size W w1):N d e w1 base (fun k=>ok k∧some k≠u.ownBlock) v xs:=
 N_mono (N_below (F1 h) hb) (fun k hk=>⟨hk.1,fun he=>by have:=hbase k he.symm; have:=hk.2; omega⟩)
theorem N_elderB (h:N d e w base ok v xs) (a:Nat) (ha:w.heap.size≤a):N d e w base (fun k=>ok k∧k≠a) v xs:=N_mono (F1 h) (fun k hk=>⟨hk.1,by have:=hk.2; omega⟩)
theorem N_slice (h:N d e w base ok v xs):∃A c,v= .slice A xs.length c:=by
 obtain ⟨_,rows,hl,hR,_⟩:=h
 obtain ⟨A,c,he⟩:=R_slice hR
 exact ⟨A,c,by rw [he,hl]⟩
theorem N_reads' {n c:Nat} (h:N d e w base ok (.slice A n c) xs):n=xs.length∧n≤c∧d.C w A xs.length xs:=by
 obtain ⟨_,rows,hl,hR,hf⟩:=h
 obtain ⟨hn,hc,hC⟩:=R_reads' hR
 refine ⟨by omega,hc,?_⟩
 rw [hl] at hC
 refine ⟨rfl,hC.2.1,fun hp=> ?_⟩
 obtain ⟨ad,he,hcell⟩:=hC.2.2 hp
 refine ⟨ad,he,fun j p hj=> ?_⟩
 have hjl:j<rows.length:=by have:=(List.getElem?_eq_some_iff.1 hj).1; omega
 obtain ⟨c',hcl,hK,hcc⟩:=hcell j _ (List.getElem?_eq_getElem hjl)
 have hk:=FK_now (hf j p _ hj (List.getElem?_eq_getElem hjl))
 refine ⟨c',hcl,?_,hcc⟩
 rw [show c'=rows[j] from hK.1]
 exact hk
end
end Kd
end Go.Proofs.YtdadecjefafflaaDoorW.PrintWords
end
section
namespace Go.Proofs.YtdadecjefafflaaDoorW.PrintWords
set_option maxRecDepth 100000
open Go.RowKit
section
variable {w w' u:World} {m B g:Nat} {o:Obj} {row:Option Nat} {S:Nat→Prop} {a:Addr} {v:Value}
end
namespace Kd
section
variable {α:Type} {d:Kd α} {e base n m:Nat} {ok:Nat→Prop} {w w':World} {v:Value} {A:Option Addr} {xs:List α}
theorem C_foot_neS {S:Nat→Prop} (hd:∀ {W W':World} {x:α} {cs:List Value},d.K W x cs→d.K W' x cs) (h:d.C w A n xs) (hf:∀ad,A=some ad→0<n→¬S ad.block):∀W',Kept w W' S→d.C W' A n xs:=by
 intro W' hk
 refine ⟨h.1,h.2.1,fun hn=> ?_⟩
 obtain ⟨ad,he,hc⟩:=h.2.2 hn
 refine ⟨ad,he,fun j p hj=> ?_⟩
 obtain ⟨cs,h1,h2,h3⟩:=hc j p hj
 exact ⟨cs,h1,hd h2,fun i u hu=>FH (h3 i u hu) hk (by rw [BH]; exact hf ad he hn)⟩
end
end Kd
end Go.Proofs.YtdadecjefafflaaDoorW.PrintWords
end
section
namespace Go.Proofs.YtdadecjefafflaaDoorW.PrintWords
set_option maxRecDepth 100000
theorem Reps.one {α:Type} {R:α→List Value→Prop} {ps:List α} {cs:List Value} {p:α} {v:Value} (hp:R p [v]) (h:Reps R 1 ps cs):Reps R 1 (p::ps) (v::cs):=by
 refine ⟨by simp [h.1],fun j q hq=> ?_⟩
 cases j with
 | zero=>
  simp only [List.getElem?_cons_zero,Option.some.injEq] at hq
  subst hq
  simpa using hp
 | succ j=>
  simp only [List.getElem?_cons_succ] at hq
  have h1:=h.2 j q hq
  simpa [Nat.mul_one] using h1
theorem Reps.front {α:Type} {R:α→List Value→Prop} {size:Nat} {ps:List α} {cs c all:List Value} {p:α} (hp:R p c) (hc:c.length=size) (h:Reps R size ps cs) (ha:c++cs=all):Reps R size (p::ps) all:=by
 subst ha
 refine ⟨by rw [List.length_append,hc,h.1,List.length_cons,Nat.succ_mul,Nat.add_comm],fun j q hq=> ?_⟩
 cases j with
 | zero=>
  simp only [List.getElem?_cons_zero,Option.some.injEq] at hq
  subst hq
  rw [Nat.zero_mul,List.drop_zero,List.take_append_of_le_length zI,List.take_of_length_le zI]
  exact hp
 | succ j=>
  simp only [List.getElem?_cons_succ] at hq
  have h1:=h.2 j q hq
  rw [Nat.succ_mul,List.drop_append,List.drop_of_length_le (by rw [hc]; exact Nat.le_add_left _ _),List.nil_append,hc,Nat.add_sub_cancel]
  exact h1
theorem Reps.c4 {α:Type} {R:α→List Value→Prop} {ps:List α} {cs:List Value} {p:α} {va vb vc vd:Value} (hp:R p [va,vb,vc,vd]) (h:Reps R 4 ps cs):Reps R 4 (p::ps) (va::vb::vc::vd::cs):=Reps.front hp rfl h rfl
end Go.Proofs.YtdadecjefafflaaDoorW.PrintWords
end
section
namespace Go.Proofs.YtdadecjefafflaaDoorW.PrintWords
set_option maxRecDepth 100000
open Go.RowKit
section
variable {P:Program} {ops:Array Oper} {rest:List Oper} {o:Oper} {a:Act} {Q:Exit→Act→World→Prop} {W:World}
theorem BI (hw:Region.wanted o (yielded ops a.tmps)=true) (h:wpList P ops Q ({o with guard:=none} ::rest) a W):wpList P ops Q (o::rest) a W:=by
 have h1:Region.wanted {o with guard:=none} (yielded ops a.tmps)=true:=rfl
 unfold wpList at h ⊢
 rw [if_pos h1] at h
 rw [if_pos hw]
 exact h
end
end Go.Proofs.YtdadecjefafflaaDoorW.PrintWords
end
section
namespace Go.Proofs.YtdadecjefafflaaDoorW.PrintWords
set_option maxRecDepth 100000
open Go.RowKit
namespace Kd
section
variable {α:Type} {d:Kd α} {e base n cap g:Nat} {ok ok' okp:Nat→Prop} {w w1 W:World} {v v1:Value} {xs ys:List α}
theorem Eb {rows news:List (List Value)} (h0:∀k,v.ownBlock=some k→ok k) (hl:rows.length=xs.length) (hf:∀(j:Nat) (x:α) (c:List Value),xs[j]? =some x→rows[j]? =some c→FK d W (fun k=>ok k∧some k≠v.ownBlock) x c)
  (hl2:news.length=ys.length) (hf2:∀(j:Nat) (x:α) (c:List Value),ys[j]? =some x→news[j]? =some c→FK d W okp x c) (hokp:∀k,okp k→ok k∧some k≠v.ownBlock) (hfresh:∀k,W.heap.size≤k→ok k)
  (hR:(raw d.sz).R e w1 base (fun _=>True) v1 (rows++news)) (hg:W.grownBy w1 v.ownBlock) (hat:v1.ownBlock=v.ownBlock∨∃b,v1.ownBlock=some b∧W.heap.size≤b):N d e w1 base ok v1 (xs++ys):=by
 have hne:∀k,some k≠v.ownBlock→k<W.heap.size→some k≠v1.ownBlock:=by
  intro k hk hlt
  rcases hat with hat|⟨b,hb,hle⟩
  ·rw [hat]; exact hk
  ·rw [hb]
   intro he
   injection he with he
   omega
 have step:∀ {x:α} {c:List Value} {o:Nat→Prop},FK d W o x c→(∀k,o k→ok k∧some k≠v.ownBlock)→FK d w1 (fun k=>ok k∧some k≠v1.ownBlock) x c:=by
  intro x c o hq ho
  exact Dy (F3 (EK hq) (fun k hk hlt=>hg.block k hlt (ho k hk.1).2)) (fun k hk=>⟨(ho k hk.1).1,hne k (ho k hk.1).2 hk.2⟩)
 refine ⟨fun k hk=> ?_,rows++news,by rw [List.length_append,List.length_append,hl,hl2],F5 hR,fun j x c hx hc=> ?_⟩
 ·rcases hat with hat|⟨b,hb,hle⟩
  ·exact h0 k (hat▸hk)
  ·rw [hb] at hk
   injection hk with hk
   exact hfresh k zI
 ·rcases Nat.lt_or_ge j xs.length with hlt|hge
  ·rw [List.getElem?_append_left hlt] at hx
   rw [List.getElem?_append_left zI] at hc
   exact step (hf j x c hx hc) (fun _ hk=>hk)
  ·rw [List.getElem?_append_right hge] at hx
   rw [List.getElem?_append_right zI,hl] at hc
   exact step (hf2 _ x c hx hc) hokp
theorem FK_raw {x:α} {c:List Value} (h:FK d W ok x c):c=c∧c.length=d.sz∧∀u∈c,u.oneCell'=true:=⟨rfl,d.K_len (FK_now h),d.K_one (FK_now h)⟩
end
section
variable {P:Program} {ops:Array Oper} {rest:List Oper} {o:Oper} {a:Act} {Q:Exit→Act→World→Prop} {Kc:Act→World→Prop} {α:Type}
theorem N_append (d:Kd α) {w0 W:World} (base:Nat) (hgd:o.guard=none) (s x:Operand) (t e:TypeId) (z:Value) (bytes:Nat)
  (ho:o.op= .call {callee:= .builtin .append,args:= #[s,x],argTypes:= #[t,t]})
  (ht:P.underlying t=some (.slice e)) (hinfo:(P.info? e).map (fun i=>(i.zero,i.size,i.bytes))=some (some z,d.sz,bytes)) (hz:z.cells.size=d.sz) (hs0:0<d.sz) (hb0:0<bytes)
  (v:Value) (xs:List α) (p:α) (cs:List Value) (ok okp:Nat→Prop) (hs:a.eval s=v) (hx:a.eval x= .slice (some ⟨W.heap.size,0,none⟩) 1 1) (hp:FK d W okp p cs) (hokp:∀k,okp k→ok k∧some k≠v.ownBlock) (hfresh:∀k,W.heap.size≤k→ok k)
  (HO:N d e W base ok v xs) (HB:Below base w0 W) (hbase:base≤W.heap.size) (hl:(xs.length+1)*bytes≤140737488355328)
  (h:∀v1 w1,N d e w1 base ok v1 (xs++[p])→Below base w0 w1→W.grownBy w1 v.ownBlock→(v1.ownBlock=v.ownBlock∨∃b,v1.ownBlock=some b∧W.heap.size≤b)→wpList P ops Q rest (a.put o.dst v1) w1):
  wpList P ops Q (o::rest) a (W.alloc (.cells cs.toArray e)):=by
 obtain ⟨h0,rows,hlr,hR,hf⟩:=HO
 refine R_append (raw d.sz) base hgd s x t e z bytes ho ht hinfo hz hs0 hb0 v rows cs cs (fun _=>True) (fun _=>False) hs hx (FK_raw hp) (fun _ hk=>hk.elim) (fun _ _=>trivial) (raw_any hR) HB hbase (by rw [hlr]; exact hl) ?_
 intro v1 w1 hr hb hg hat
 exact h v1 w1 (Eb h0 hlr hf (ys:=[p]) (news:=[cs]) rfl (fun j y c hy hc=>by
  rcases j with _|j
  ·simp only [List.getElem?_cons_zero,Option.some.injEq] at hy hc
   rw [←hy,←hc]; exact hp
  ·simp at hy) hokp hfresh hr hg hat) hb hg hat
end
end Kd
end Go.Proofs.YtdadecjefafflaaDoorW.PrintWords
end
section
namespace Go.Proofs.YtdadecjefafflaaDoorW.PrintMore
set_option maxRecDepth 100000
open Go.RowKit Go.Proofs.YtdadecjefafflaaDoorW.PrintWords
namespace Kd
open Go.Proofs.YtdadecjefafflaaDoorW.PrintWords.Kd
end Kd
namespace Kd
open Go.Proofs.YtdadecjefafflaaDoorW.PrintWords.Kd
section
variable {α:Type} {d:Kd α} {e base g N:Nat} {ok:Nat→Prop} {W w1:World} {u v:Value} {xs:List α}
end
end Kd
theorem Ba (k k':IntKind) (x y:Int):Builtin.max2 (.int k x) (.int k' y)=pure (.int k (if x<y then y else x)):=by simp only [Builtin.max2,gt_iff_lt]
theorem BX (k k':IntKind) (x y:Int):Builtin.min2 (.int k x) (.int k' y)=pure (.int k (if y<x then y else x)):=by simp only [Builtin.min2]
theorem Be (ats:Array TypeId) (ty:TypeId) (a b:Value):Builtin.max_ ats ty #[a,b]=(Builtin.max2 a b>>=fun s=>pure s):=by simp only [Builtin.max_,List.foldlM_cons,List.foldlM_nil]
theorem Bd (ats:Array TypeId) (ty:TypeId) (a b:Value):Builtin.min_ ats ty #[a,b]=(Builtin.min2 a b>>=fun s=>pure s):=by simp only [Builtin.min_,List.foldlM_cons,List.foldlM_nil]
theorem BS (ats:Array TypeId) (ty:TypeId) (a b c:Value):Builtin.max_ ats ty #[a,b,c]=(Builtin.max2 a b>>=fun s=>Builtin.max2 s c>>=fun s=>pure s):=by simp only [Builtin.max_,List.foldlM_cons,List.foldlM_nil]
theorem BR (ats:Array TypeId) (ty:TypeId) (a b c:Value):Builtin.min_ ats ty #[a,b,c]=(Builtin.min2 a b>>=fun s=>Builtin.min2 s c>>=fun s=>pure s):=by simp only [Builtin.min_,List.foldlM_cons,List.foldlM_nil]
theorem BZ (ats:Array TypeId) (ty:TypeId) (a b c d:Value):Builtin.max_ ats ty #[a,b,c,d]=(Builtin.max2 a b>>=fun s=>Builtin.max2 s c>>=fun s=>Builtin.max2 s d>>=fun s=>pure s):=by simp only [Builtin.max_,List.foldlM_cons,List.foldlM_nil]
theorem BW (ats:Array TypeId) (ty:TypeId) (a b c d:Value):Builtin.min_ ats ty #[a,b,c,d]=(Builtin.min2 a b>>=fun s=>Builtin.min2 s c>>=fun s=>Builtin.min2 s d>>=fun s=>pure s):=by simp only [Builtin.min_,List.foldlM_cons,List.foldlM_nil]
end Go.Proofs.YtdadecjefafflaaDoorW.PrintMore
namespace Go.Proofs.YtdadecjefafflaaDoorW.PrintWords
set_option maxRecDepth 100000
open Go.RowKit
section
variable {P:Program} {ops:Array Oper} {rest:List Oper} {o:Oper} {a:Act} {Q:Exit→Act→World→Prop} {W:World}
theorem Ah {f:FuncId} {azz:Array Operand} {ts:Array TypeId} (_ho:o.op= .call {callee:= .value (.func f),args:=azz,argTypes:=ts}) (h:wpList P ops Q (o::rest) a W):wpList P ops Q (o::rest) a W:=h
theorem Bs {b:Builtin} {xs:Array Operand} {ts:Array TypeId} (_ho:o.op= .call {callee:= .builtin b,args:=xs,argTypes:=ts}) (h:wpList P ops Q (o::rest) a W):wpList P ops Q (o::rest) a W:=h
end
def mx (a b:Int):Int:=if a<b then b else a
def mn (a b:Int):Int:=if b<a then b else a
namespace Kd
section
variable {α:Type} {d:Kd α} {e base:Nat} {ok:Nat→Prop} {W w1:World} {v:Value} {xs:List α}
end
section
variable {α:Type} {d:Kd α} {e base g n cap:Nat} {ok oki okp:Nat→Prop} {W:World} {xs:List α} {i:Int} {c:List Value}
end
section
variable {α:Type} {d:Kd α} {e base b b' g N:Nat} {ok ok1:Nat→Prop} {W W2 w1:World} {u v:Value} {xs ys:List α} {S:Nat→Prop}
end
end Kd
end Go.Proofs.YtdadecjefafflaaDoorW.PrintWords
namespace Go.Proofs.YtdadecjefafflaaDoorW.PrintWords
set_option maxRecDepth 100000
open Go.RowKit
namespace Kd
def V {α:Type} (d:Kd α) (_e:Nat) (W:World) (_base:Nat) (ok:Nat→Prop) (v:Value) (xs:List α):Prop:=∃A c,v= .slice A xs.length c∧xs.length≤c∧F d W ok A xs.length xs
section
variable {α β:Type} {d:Kd α} {e base base' n m c g N' lo hi:Nat} {ok ok' S:Nat→Prop} {w W w1:World} {A:Option Addr} {ad:Addr} {u v v1:Value} {xs:List α}
theorem D8 (h:V d e W base ok v xs) (hF:∀A,F d W ok A xs.length xs→F d w1 ok' A xs.length xs):V d e w1 base' ok' v xs:=by
 obtain ⟨A,c,hv,hl,hf⟩:=h
 exact ⟨A,c,hv,hl,hF A hf⟩
theorem V_mk (hl:xs.length≤c) (hf:F d W ok A xs.length xs):V d e W base ok (.slice A xs.length c) xs:=⟨A,c,rfl,hl,hf⟩
theorem V_at (h:V d e W base ok (.slice A n c) xs):n=xs.length∧n≤c∧F d W ok A xs.length xs:=by
 obtain ⟨A',c',hv,hl,hf⟩:=h
 injection hv with ha hn hc
 subst ha; subst hc
 exact ⟨hn,by rw [hn]; exact hl,hf⟩
theorem V_reads' (h:V d e W base ok (.slice A n c) xs):n=xs.length∧n≤c∧d.C W A xs.length xs:=⟨(V_at h).1,(V_at h).2.1,F_now (V_at h).2.2⟩
theorem V_F (h:V d e W base ok (.slice A n c) xs):F d W ok A n xs:=by
 obtain ⟨hn,_,hf⟩:=V_at h
 rw [hn]
 exact hf
theorem V_nil (d:Kd α) (e:Nat) (W:World) (base:Nat) (ok:Nat→Prop):V d e W base ok (.slice none 0 0) []:=⟨none,0,rfl,Nat.le_refl _,F_nil d W ok⟩
theorem V_mono (h:V d e W base ok v xs) (hok:∀k,ok k→ok' k):V d e W base ok' v xs:=D8 h (fun _ hf=>Ec hf hok)
theorem V_below (h:V d e W base ok v xs) (hb:Below W.heap.size W w1):V d e w1 base ok v xs:=D8 h (fun _ hf=>F_below hf hb)
theorem V_alloc (h:V d e W base ok v xs) (o:Obj):V d e (W.alloc o) base ok v xs:=D8 h (fun _ hf=>F_alloc hf o)
theorem V_drew (h:V d e W base ok v xs):V d e W.drew base ok v xs:=D8 h (fun _ hf=>F_drew hf)
theorem V_drewN (h:V d e W base ok v xs) (m:Nat):V d e (W.drewN m) base ok v xs:=D8 h (fun _ hf=>F_drewN hf m)
theorem V_far (h:V d e W base ok v xs) {p:Addr} (hok:∀k,ok k→k≠p.block) (u:Value):V d e (W.setCell p u) base ok v xs:=D8 h (fun _ hf=>F_far hf hok u)
theorem V_after (h:V d e W base (fun k=>ok k∧some k≠u.ownBlock) v xs) (hg:W.grownBy w1 u.ownBlock) (hat:v1.ownBlock=u.ownBlock∨∃b,v1.ownBlock=some b∧W.heap.size≤b):V d e w1 base (fun k=>ok k∧some k≠v1.ownBlock) v xs:=D8 h (fun _ hf=>F_after hf hg hat)
theorem V_afterv (h:V d e W base (fun k=>ok k∧some k≠v.ownBlock) u xs) (hg:W.grownBy w1 v.ownBlock) (hat:v1.ownBlock=v.ownBlock∨∃b,v1.ownBlock=some b∧W.heap.size≤b):V d e w1 base (fun k=>ok k∧some k≠v1.ownBlock) u xs:=V_after h hg hat
theorem V_elderB (h:V d e W base ok v xs) (a:Nat) (ha:W.heap.size≤a):V d e W base (fun k=>ok k∧k≠a) v xs:=D8 h (fun _ hf=>Fx hf a ha)
theorem V_get (h:V d e W base ok (.slice (some ad) n c) xs) (z:α) (i:Int) (h0:0≤i) (h1:i<n):
  ∃cs,cs.length=d.sz∧FK d W ok (xs.getD i.toNat z) cs∧∀j u,cs[j]? =some u→W.cell? (ad.add (i.toNat*d.sz+j))=some u:=by
 obtain ⟨ad',cs,he,hcl,hK,hcc,_⟩:=F_get (V_F h) z i h0 h1
 injection he with he
 subst he
 exact ⟨cs,hcl,hK,hcc⟩
end
end Kd
end Go.Proofs.YtdadecjefafflaaDoorW.PrintWords
end
section
namespace Go.Proofs.YtdadecjefafflaaDoor.PChk
set_option maxRecDepth 100000
open Go.RowKit Go.Proofs.YtdadecjefafflaaDoorW.PrintWords Go.Proofs.YtdadecjefafflaaDoorW.PrintLast Go.Proofs.YtdadecjefafflaaDoorW.PrintMore
attribute [local go_sem] Ba BX Be Bd BS BR BZ BW
def errW:Option Int→Value
 |none=> .nilIface
 |some c=> .iface 0 (.int .i64 c)
theorem AZ:errW none= .nilIface:=rfl
theorem AY (c:Int):errW (some c)= .iface 0 (.int .i64 c):=rfl
theorem info3:(Tryd.prog.info? 3).map (fun i=>(i.zero,i.size,i.bytes))=some (some (.int .i64 0),1,8):=by kernel_rfl
theorem info4:(Tryd.prog.info? 4).map (fun i=>(i.zero,i.size,i.bytes))=some (some (.bool false),1,1):=by kernel_rfl
theorem info9:(Tryd.prog.info? 9).map (fun i=>(i.zero,i.size,i.bytes))=some (some (.string ⟨#[]⟩),1,16):=by kernel_rfl
theorem info49:(Tryd.prog.info? 49).map (fun i=>(i.zero,i.size,i.bytes))=some (some (.agg #[(.string ⟨#[]⟩),(.int .i64 0),(.int .i64 0),(.slice none 0 0)]),4,56):=by kernel_rfl
theorem info56:(Tryd.prog.info? 56).map (fun i=>(i.zero,i.size,i.bytes))=some (some (.agg #[(.int .i64 0),(.int .i64 0)]),2,16):=by kernel_rfl
structure S49 where
 f0:ByteArray
 f1:Int
 f2:Int
 f3:(List Int)
def z49:S49:=⟨(⟨#[]⟩:ByteArray),(0:Int),(0:Int),([]:List Int)⟩
def k49:Kd S49:=Kd.iso (Kd.pair Kd.string (Kd.pair (Kd.int .i64) (Kd.pair (Kd.int .i64) (Kd.slice 3 (Kd.int .i64))))) (fun x:S49=>(x.f0,x.f1,x.f2,x.f3))
theorem Fe {w:World} {x:S49} {cs:List Value} (h:k49.K w x cs):∃A3 c3,cs=[.string x.f0,.int .i64 x.f1,.int .i64 x.f2,.slice A3 x.f3.length c3]∧x.f3.length≤c3∧(Kd.int .i64).C w A3 x.f3.length x.f3:=by
 obtain ⟨_,_,rfl,rfl,⟨_,_,rfl,rfl,⟨_,_,rfl,rfl,⟨A3,c3,rfl,l3,g3⟩⟩⟩⟩:=h
 exact ⟨A3,c3,rfl,l3,g3⟩
theorem k49_mk (w:World) (x:S49) {A3:Option Addr} {c3:Nat} (l3:x.f3.length≤c3) (g3:(Kd.int .i64).C w A3 x.f3.length x.f3):k49.K w x [.string x.f0,.int .i64 x.f1,.int .i64 x.f2,.slice A3 x.f3.length c3]:=⟨[.string x.f0],[.int .i64 x.f1,.int .i64 x.f2,.slice A3 x.f3.length c3],rfl,rfl,⟨[.int .i64 x.f1],[.int .i64 x.f2,.slice A3 x.f3.length c3],rfl,rfl,⟨[.int .i64 x.f2],[.slice A3 x.f3.length c3],rfl,rfl,⟨A3,c3,rfl,l3,g3⟩⟩⟩⟩
theorem Dt (w:World) (base:Nat) (ok:Nat→Prop) (x:S49) {v3:Value} (g3:(Kd.int .i64).R 3 w base ok v3 x.f3):k49.M w base ok x [.string x.f0,.int .i64 x.f1,.int .i64 x.f2,v3]:=⟨[.string x.f0],[.int .i64 x.f1,.int .i64 x.f2,v3],rfl,rfl,⟨[.int .i64 x.f1],[.int .i64 x.f2,v3],rfl,rfl,⟨[.int .i64 x.f2],[v3],rfl,rfl,⟨v3,rfl,g3⟩⟩⟩⟩
theorem k49_mkF (W:World) (ok:Nat→Prop) (x:S49) {A3:Option Addr} {c3:Nat} (l3:x.f3.length≤c3) (g3:Kd.F (Kd.int .i64) W ok A3 x.f3.length x.f3):Kd.FK k49 W ok x [.string x.f0,.int .i64 x.f1,.int .i64 x.f2,.slice A3 x.f3.length c3]:=fun W2 hW=>k49_mk W2 x l3 (g3 W2 hW)
def AM (xs:List S49) (i:Int):S49:=xs.getD i.toNat z49
theorem C9 {w:World} {A:Option Addr} {n:Nat} {xs:List S49} (h:Kd.C k49 w A n xs) (i:Int) (h0:0≤i) (h1:i<n):∃ad A3 c3,A=some ad∧w.cell? (ad.add (i.toNat*4))=some (.string (AM xs i).f0)∧w.cell? ⟨(ad.add (i.toNat*4)).block,(ad.add (i.toNat*4)).off+1,none⟩=some (.int .i64 (AM xs i).f1)∧w.cell? ⟨(ad.add (i.toNat*4)).block,(ad.add (i.toNat*4)).off+2,none⟩=some (.int .i64 (AM xs i).f2)∧w.cell? ⟨(ad.add (i.toNat*4)).block,(ad.add (i.toNat*4)).off+3,none⟩=some (.slice A3 (AM xs i).f3.length c3)∧(AM xs i).f3.length≤c3∧(Kd.int .i64).C w A3 (AM xs i).f3.length (AM xs i).f3:=by
 obtain ⟨ad,c,e,_,hK,hc0⟩:=Kd.C_get h z49 i h0 h1
 have hc:∀j u,c[j]? =some u→w.cell? (ad.add (i.toNat*4+j))=some u:=hc0
 obtain ⟨A3,c3,rfl,l3,g3⟩:=Fe hK
 exact ⟨ad,A3,c3,e,hc 0 _ rfl,by rw [←C0 _ _ 1 zI]; exact hc 1 _ rfl,by rw [←C0 _ _ 2 zI]; exact hc 2 _ rfl,by rw [←C0 _ _ 3 zI]; exact hc 3 _ rfl,l3,g3⟩
structure S56 where
 f0:Int
 f1:Int
def z56:S56:=⟨(0:Int),(0:Int)⟩
def k56:Kd S56:=Kd.iso (Kd.pair (Kd.int .i64) (Kd.int .i64)) (fun x:S56=>(x.f0,x.f1))
theorem Fd {w:World} {x:S56} {cs:List Value} (h:k56.K w x cs):cs=[.int .i64 x.f0,.int .i64 x.f1]:=by
 obtain ⟨_,_,rfl,rfl,rfl⟩:=h
 exact rfl
theorem Di {w:World} {base:Nat} {ok:Nat→Prop} {x:S56} {cs:List Value} (h:k56.M w base ok x cs):cs=[.int .i64 x.f0,.int .i64 x.f1]:=by
 obtain ⟨_,_,rfl,rfl,rfl⟩:=h
 exact rfl
theorem Ds (w:World) (base:Nat) (ok:Nat→Prop) (x:S56):k56.M w base ok x [.int .i64 x.f0,.int .i64 x.f1]:=⟨[.int .i64 x.f0],[.int .i64 x.f1],rfl,rfl,rfl⟩
def An (xs:List S56) (i:Int):S56:=xs.getD i.toNat z56
theorem Bh {w:World} {A:Option Addr} {n:Nat} {xs:List S56} (h:Kd.C k56 w A n xs) (i:Int) (h0:0≤i) (h1:i<n):∃ad,A=some ad∧w.cell? (ad.add (i.toNat*2))=some (.int .i64 (An xs i).f0)∧w.cell? ⟨(ad.add (i.toNat*2)).block,(ad.add (i.toNat*2)).off+1,none⟩=some (.int .i64 (An xs i).f1):=by
 obtain ⟨ad,c,e,_,hK,hc0⟩:=Kd.C_get h z56 i h0 h1
 have hc:∀j u,c[j]? =some u→w.cell? (ad.add (i.toNat*2+j))=some u:=hc0
 obtain rfl:=Fd hK
 exact ⟨ad,e,hc 0 _ rfl,by rw [←C0 _ _ 1 zI]; exact hc 1 _ rfl⟩
structure S57 where
 f0:ByteArray
 f1:Int
 f2:Int
 f3:(List Int)
def z57:S57:=⟨(⟨#[]⟩:ByteArray),(0:Int),(0:Int),([]:List Int)⟩
def k57:Kd S57:=Kd.iso (Kd.pair Kd.string (Kd.pair (Kd.int .i64) (Kd.pair (Kd.int .i64) (Kd.slice 3 (Kd.int .i64))))) (fun x:S57=>(x.f0,x.f1,x.f2,x.f3))
theorem CS:Kd.Heap k57:=Kd.heap_iso _ (Kd.heap_pair Kd.heap_string (Kd.heap_pair (Kd.heap_int .i64) (Kd.heap_pair (Kd.heap_int .i64) (Kd.heap_slice 3 (Kd.heap_int .i64)))))
theorem DO {w:World} {x:S57} {cs:List Value} (h:k57.K w x cs):∃A3 c3,cs=[.string x.f0,.int .i64 x.f1,.int .i64 x.f2,.slice A3 x.f3.length c3]∧x.f3.length≤c3∧(Kd.int .i64).C w A3 x.f3.length x.f3:=by
 obtain ⟨_,_,rfl,rfl,⟨_,_,rfl,rfl,⟨_,_,rfl,rfl,⟨A3,c3,rfl,l3,g3⟩⟩⟩⟩:=h
 exact ⟨A3,c3,rfl,l3,g3⟩
theorem k57_mk (w:World) (x:S57) {A3:Option Addr} {c3:Nat} (l3:x.f3.length≤c3) (g3:(Kd.int .i64).C w A3 x.f3.length x.f3):k57.K w x [.string x.f0,.int .i64 x.f1,.int .i64 x.f2,.slice A3 x.f3.length c3]:=⟨[.string x.f0],[.int .i64 x.f1,.int .i64 x.f2,.slice A3 x.f3.length c3],rfl,rfl,⟨[.int .i64 x.f1],[.int .i64 x.f2,.slice A3 x.f3.length c3],rfl,rfl,⟨[.int .i64 x.f2],[.slice A3 x.f3.length c3],rfl,rfl,⟨A3,c3,rfl,l3,g3⟩⟩⟩⟩
theorem FC {W:World} {ok:Nat→Prop} {x:S57} {cs:List Value} (h:Kd.FK k57 W ok x cs):∃A3 c3,cs=[.string x.f0,.int .i64 x.f1,.int .i64 x.f2,.slice A3 x.f3.length c3]∧x.f3.length≤c3∧Kd.F (Kd.int .i64) W ok A3 x.f3.length x.f3:=by
 obtain ⟨A3,c3,rfl,l3,_⟩:=DO (Kd.FK_now h)
 exact ⟨A3,c3,rfl,l3,(fun W' hW=>by obtain ⟨A3_,c3_,he,l3_,g3_⟩:=DO (h W' hW); injection (Option.some.inj (show some (Value.slice A3 x.f3.length c3)=some (Value.slice A3_ x.f3.length c3_) from congrArg (fun l=>l[3]?) he)) with ha_ _ _; rw [ha_]; exact g3_)⟩
def AL (xs:List S57) (i:Int):S57:=xs.getD i.toNat z57
theorem Bb {w:World} {A:Option Addr} {n:Nat} {xs:List S57} (h:Kd.C k57 w A n xs) (i:Int) (h0:0≤i) (h1:i<n):∃ad A3 c3,A=some ad∧w.cell? (ad.add (i.toNat*4))=some (.string (AL xs i).f0)∧w.cell? ⟨(ad.add (i.toNat*4)).block,(ad.add (i.toNat*4)).off+1,none⟩=some (.int .i64 (AL xs i).f1)∧w.cell? ⟨(ad.add (i.toNat*4)).block,(ad.add (i.toNat*4)).off+2,none⟩=some (.int .i64 (AL xs i).f2)∧w.cell? ⟨(ad.add (i.toNat*4)).block,(ad.add (i.toNat*4)).off+3,none⟩=some (.slice A3 (AL xs i).f3.length c3)∧(AL xs i).f3.length≤c3∧(Kd.int .i64).C w A3 (AL xs i).f3.length (AL xs i).f3:=by
 obtain ⟨ad,c,e,_,hK,hc0⟩:=Kd.C_get h z57 i h0 h1
 have hc:∀j u,c[j]? =some u→w.cell? (ad.add (i.toNat*4+j))=some u:=hc0
 obtain ⟨A3,c3,rfl,l3,g3⟩:=DO hK
 exact ⟨ad,A3,c3,e,hc 0 _ rfl,by rw [←C0 _ _ 1 zI]; exact hc 1 _ rfl,by rw [←C0 _ _ 2 zI]; exact hc 2 _ rfl,by rw [←C0 _ _ 3 zI]; exact hc 3 _ rfl,l3,g3⟩
structure S59 where
 f0:Int
 f1:Int
def z59:S59:=⟨(0:Int),(0:Int)⟩
def k59:Kd S59:=Kd.iso (Kd.pair (Kd.int .i64) (Kd.int .i64)) (fun x:S59=>(x.f0,x.f1))
theorem Fc {w:World} {x:S59} {cs:List Value} (h:k59.K w x cs):cs=[.int .i64 x.f0,.int .i64 x.f1]:=by
 obtain ⟨_,_,rfl,rfl,rfl⟩:=h
 exact rfl
theorem k59_mk (w:World) (x:S59):k59.K w x [.int .i64 x.f0,.int .i64 x.f1]:=⟨[.int .i64 x.f0],[.int .i64 x.f1],rfl,rfl,rfl⟩
def Aj (xs:List S59) (i:Int):S59:=xs.getD i.toNat z59
theorem BE {w:World} {A:Option Addr} {n:Nat} {xs:List S59} (h:Kd.C k59 w A n xs) (i:Int) (h0:0≤i) (h1:i<n):∃ad,A=some ad∧w.cell? (ad.add (i.toNat*2))=some (.int .i64 (Aj xs i).f0)∧w.cell? ⟨(ad.add (i.toNat*2)).block,(ad.add (i.toNat*2)).off+1,none⟩=some (.int .i64 (Aj xs i).f1):=by
 obtain ⟨ad,c,e,_,hK,hc0⟩:=Kd.C_get h z59 i h0 h1
 have hc:∀j u,c[j]? =some u→w.cell? (ad.add (i.toNat*2+j))=some u:=hc0
 obtain rfl:=Fc hK
 exact ⟨ad,e,hc 0 _ rfl,by rw [←C0 _ _ 1 zI]; exact hc 1 _ rfl⟩
end Go.Proofs.YtdadecjefafflaaDoor.PChk
end
section
namespace Go.Proofs.YtdadecjefafflaaDoor.PChk
set_option maxRecDepth 100000
open Go.RowKit Go.Proofs.YtdadecjefafflaaDoorW.PrintWords Go.Proofs.YtdadecjefafflaaDoorW.PrintLast Go.Proofs.YtdadecjefafflaaDoorW.PrintMore
attribute [local go_sem] Ba BX Be Bd BS BR BZ BW
def C8.f (a0:Int):Option (Bool):=if a0≥97 then (if a0≤122 then (some true) else (if a0≥65 then (some (decide (a0≤90))) else (some false))) else (if a0≥65 then (some (decide (a0≤90))) else (some false))
set_option maxHeartbeats 8000000 in
theorem C8.calls (a0:Int) (r:Bool) (w:World) (h:C8.f a0=some r):
  Calls Tryd.prog 73 #[.int .u8 a0] w fun e w'=>e= .returned (.bool r)∧Drawn0 w w':=by
 have H:(if a0≥97 then (if a0≤122 then (some true) else (if a0≥65 then (some (decide (a0≤90))) else (some false))) else (if a0≥65 then (some (decide (a0≤90))) else (some false)))=some r:=h
 clear h
 by_cases c2:a0≥97
 ·rw [if_pos c2] at H
  have c2b0:decide (97≤a0)=true:=decide_eq_true c2
  clear c2
  by_cases c3:a0≤122
  ·rw [if_pos c3] at H
   have c3b0:decide (a0≤122)=true:=decide_eq_true c3
   clear c3
   obtain rfl:=Option.some.inj H
   go_enter Tryd.func73,Tryd.ntmps73
   go_wp2
   go_ret
   exact ⟨by first|rfl|(simp; done)|(simp [*]; done),by repeat (first|exact Drawn0.refl _|apply Drawn0.step)⟩
  ·rw [if_neg c3] at H
   have c3b0:decide (a0≤122)=false:=decide_eq_false c3
   clear c3
   by_cases c4:a0≥65
   ·rw [if_pos c4] at H
    have c4b0:decide (65≤a0)=true:=decide_eq_true c4
    clear c4
    obtain rfl:=Option.some.inj H
    go_enter Tryd.func73,Tryd.ntmps73
    go_wp2
    go_ret
    exact ⟨by first|rfl|(simp; done)|(simp [*]; done),by repeat (first|exact Drawn0.refl _|apply Drawn0.step)⟩
   ·rw [if_neg c4] at H
    have c4b0:decide (65≤a0)=false:=decide_eq_false c4
    clear c4
    obtain rfl:=Option.some.inj H
    go_enter Tryd.func73,Tryd.ntmps73
    go_wp2
    go_ret
    exact ⟨by first|rfl|(simp; done)|(simp [*]; done),by repeat (first|exact Drawn0.refl _|apply Drawn0.step)⟩
 ·rw [if_neg c2] at H
  have c2b0:decide (97≤a0)=false:=decide_eq_false c2
  clear c2
  by_cases c5:a0≥65
  ·rw [if_pos c5] at H
   have c5b0:decide (65≤a0)=true:=decide_eq_true c5
   clear c5
   obtain rfl:=Option.some.inj H
   go_enter Tryd.func73,Tryd.ntmps73
   go_wp2
   go_ret
   exact ⟨by first|rfl|(simp; done)|(simp [*]; done),by repeat (first|exact Drawn0.refl _|apply Drawn0.step)⟩
  ·rw [if_neg c5] at H
   have c5b0:decide (65≤a0)=false:=decide_eq_false c5
   clear c5
   obtain rfl:=Option.some.inj H
   go_enter Tryd.func73,Tryd.ntmps73
   go_wp2
   go_ret
   exact ⟨by first|rfl|(simp; done)|(simp [*]; done),by repeat (first|exact Drawn0.refl _|apply Drawn0.step)⟩
def Bv (c:Int):Bool:=decide (97≤c)&&decide (c≤122)||decide (65≤c)&&decide (c≤90)
def Cf (c:Int):Bool:=decide (48≤c)&&decide (c≤57)
def CQ (c:Int):Bool:=((Bv c||Cf c)||(c==45))||(c==95)
theorem F9 (c:Int):C8.f c=some (Bv c):=by
 unfold C8.f Bv
 by_cases h1:97≤c
 ·by_cases h2:c≤122
  ·simp [h1,h2]
  ·simp [h1,h2,show 65≤c by omega]
 ·by_cases h3:65≤c
  ·simp [h1,h3]
  ·simp [h1,h3]
theorem CN (c:Int) (w:World):Calls Tryd.prog 73 #[.int .u8 c] w fun e w'=>e= .returned (.bool (Bv c))∧Drawn0 w w':=C8.calls c _ w (F9 c)
theorem DM (c:Int) (w:World):Calls Tryd.prog 76 #[.int .u8 c] w fun e w'=>e= .returned (.bool (Cf c))∧Drawn0 w w':=by
 unfold Cf
 cases h1:decide (48≤c) with
 | true=>
  go_enter Tryd.func76,Tryd.ntmps76
  go_wp2
  go_ret
  exact ⟨by first|rfl|(simp; done)|(simp [*]; done),by repeat (first|exact Drawn0.refl _|apply Drawn0.step)⟩
 | false=>
  go_enter Tryd.func76,Tryd.ntmps76
  go_wp2
  go_ret
  exact ⟨by first|rfl|(simp; done)|(simp [*]; done),by repeat (first|exact Drawn0.refl _|apply Drawn0.step)⟩
theorem EA (c:Int) (w:World):Calls Tryd.prog 75 #[.int .u8 c] w fun e w'=>e= .returned (.bool (CQ c))∧Drawn0 w w':=by
 unfold CQ
 cases h1:Bv c with
 | true=>
  go_enter Tryd.func75,Tryd.ntmps75
  go_wp2_with (first|(go_at_call 73; (with_reducible refine (CN c _).mono ?_); rintro e w' ⟨rfl,⟨nd,rfl⟩⟩))
  go_ret
  exact ⟨by first|rfl|(simp; done)|(simp [*]; done),by repeat (first|exact Drawn0.refl _|apply Drawn0.step)⟩
 | false=>
  cases h2:Cf c with
  | true=>
   go_enter Tryd.func75,Tryd.ntmps75
   go_wp2_with (first|(go_at_call 73; (with_reducible refine (CN c _).mono ?_); rintro e w' ⟨rfl,⟨nd,rfl⟩⟩)|(go_at_call 76; (with_reducible refine (DM c _).mono ?_); rintro e w' ⟨rfl,⟨nd,rfl⟩⟩))
   go_ret
   exact ⟨by first|rfl|(simp; done)|(simp [*]; done),by repeat (first|exact Drawn0.refl _|apply Drawn0.step)⟩
  | false=>
   cases h3:(c==45) with
   | true=>
    go_enter Tryd.func75,Tryd.ntmps75
    go_wp2_with (first|(go_at_call 73; (with_reducible refine (CN c _).mono ?_); rintro e w' ⟨rfl,⟨nd,rfl⟩⟩)|(go_at_call 76; (with_reducible refine (DM c _).mono ?_); rintro e w' ⟨rfl,⟨nd,rfl⟩⟩))
    go_ret
    exact ⟨by first|rfl|(simp; done)|(simp [*]; done),by repeat (first|exact Drawn0.refl _|apply Drawn0.step)⟩
   | false=>
    go_enter Tryd.func75,Tryd.ntmps75
    go_wp2_with (first|(go_at_call 73; (with_reducible refine (CN c _).mono ?_); rintro e w' ⟨rfl,⟨nd,rfl⟩⟩)|(go_at_call 76; (with_reducible refine (DM c _).mono ?_); rintro e w' ⟨rfl,⟨nd,rfl⟩⟩))
    go_ret
    exact ⟨by first|rfl|(simp; done)|(simp [*]; done),by repeat (first|exact Drawn0.refl _|apply Drawn0.step)⟩
def C6 (s:ByteArray):Nat→Nat→Nat
 |0,n=>n
 |k+1,n=>if CQ (bt s n)=true then C6 s k (n+1) else n
open Go.Shelf in
theorem lx_run (s:ByteArray) (w:World) (hs:s.size≤9223372036854775807):Calls Tryd.prog 74 #[.string s,.func (.func 75) #[] #[]] w fun e w'=>e= .returned (.int .i64 (C6 s s.size 0:Nat))∧Drawn0 w w':=by
 have eg:∀args w,(callFunc 75 args).run Tryd.prog w= .ok (.enter 75 args) w:=enters_of Tryd.func75 zE rfl
 go_enter Tryd.func74,Tryd.ntmps74
 go_wp2
 go_loopg [5] s.size (fun gg v5 w'=>∃n:Nat,v5= .int .i64 (n:Int)∧Aside0 (n≤s.size)∧Aside0 (s.size-n≤gg)∧Aside0 (C6 s (s.size-n) n=C6 s s.size 0)∧Aside0 (Drawn0 w w'))
 case atStart=>exact ⟨0,rfl,⟨Nat.zero_le _⟩,⟨by omega⟩,⟨rfl⟩,⟨by repeat (first|exact Drawn0.refl _|apply Drawn0.step)⟩⟩
 case round=>
  obtain ⟨n,rfl,H1,H2,H3,HD⟩:=hrel
  by_cases c1:n<s.size
  ·have c1b:decide ((n:Int)<(s.size:Int))=true:=decide_eq_true zI
   have hb:s.size-n=(s.size-(n+1))+1:=by omega
   have he:bt s n=((s[n]'c1).toNat:Int):=by unfold bt; rw [dif_pos zI]; rfl
   cases c2:CQ (bt s n) with
   | true=>
    have hq:=EA (bt s n) wr
    rw [c2,he] at hq
    go_wp2_with (first|(go_at_fn 75; (with_reducible refine hq.mono ?_); rintro e w' ⟨rfl,⟨nd,rfl⟩⟩))
    go_roundg (s.size-(n+1))
    case measure=>have:=H2.out; omega
    case rel=>exact ⟨n+1,by go_num,⟨by omega⟩,⟨by omega⟩,⟨by rw [←H3.out,hb,C6,if_pos c2]⟩,⟨by repeat (first|exact HD.out|apply Drawn0.step)⟩⟩
   | false=>
    have hq:=EA (bt s n) wr
    rw [c2,he] at hq
    have h3:=H3.out
    rw [hb,C6,if_neg (by simp [c2])] at h3
    replace h3:=yA h3
    go_wp2_with (first|(go_at_fn 75; (with_reducible refine hq.mono ?_); rintro e w' ⟨rfl,⟨nd,rfl⟩⟩))
    go_ret
    exact ⟨by rw [←h3.out]; rfl,by repeat (first|exact HD.out|apply Drawn0.step)⟩
  ·have c1b:decide ((n:Int)<(s.size:Int))=false:=decide_eq_false zI
   have h3:=H3.out
   rw [show s.size-n=0 by omega,C6] at h3
   replace h3:=yA h3
   go_wp2
   go_ret
   exact ⟨by rw [←h3.out]; rfl,by repeat (first|exact HD.out|apply Drawn0.step)⟩
theorem FX (s:ByteArray):s.toList.length=s.size:=by rw [ByteArray.toList_eq]; cases s; rfl
def Bj.f (a0:ByteArray):Option (Int):=if a0.size≤30 then some (if Bv (bt a0 0)=true then (C6 a0 a0.size 0:Nat) else 0) else none
set_option maxHeartbeats 8000000 in
theorem Bj.calls (a0:ByteArray) (r:Int) (w:World) (h:Bj.f a0=some r):
  Calls Tryd.prog 49 #[.string a0] w fun e w'=>e= .returned (.int .i64 r)∧Drawn0 w w':=by
 have c0:a0.size≤30:=Decidable.byContradiction fun c=>by simp [Bj.f,c] at h
 rw [Bj.f,if_pos c0] at h
 obtain rfl:=Option.some.inj h
 clear h
 by_cases c1:a0.toList=([]:List UInt8)
 ·have c1b0:(a0.toList==([]:List UInt8))=true:=beq_iff_eq.mpr c1
  have c1b1:(a0.toList !=([]:List UInt8))=false:=bne_eq_false_iff_eq.mpr c1
  rw [show bt a0 0=0 from by unfold bt; rw [dif_neg (by have:=FX a0; rw [c1] at this; simp only [List.length_nil] at this; omega)],if_neg zA2]
  clear c1
  go_enter Tryd.func49,Tryd.ntmps49
  go_wp2
  go_ret
  exact ⟨by first|rfl|(simp; done)|(simp [*]; done),by repeat (first|exact Drawn0.refl _|apply Drawn0.step)⟩
 ·have c1b0:(a0.toList==([]:List UInt8))=false:=beq_eq_false_iff_ne.mpr c1
  have c1b1:(a0.toList !=([]:List UInt8))=true:=bne_iff_ne.mpr c1
  have c2:0<a0.size:=by
   rcases Nat.eq_zero_or_pos a0.size with h|h
   ·exact absurd (List.eq_nil_of_length_eq_zero ((FX a0).trans h)) c1
   ·exact h
  have he:bt a0 0=((a0[0]'c2).toNat:Int):=(CB a0 0 c2).symm
  have hq:=fun w=>CN (bt a0 0) w
  cases c3:Bv (bt a0 0) with
  | true=>
   rw [c3,he] at hq
   clear c3 he
   go_enter Tryd.func49,Tryd.ntmps49
   go_wp2_with (first|(go_at_call 73; (with_reducible refine (hq _).mono ?_); rintro e w' ⟨rfl,⟨nd,rfl⟩⟩)|(go_at_call 74; (with_reducible refine (lx_run a0 _ zI).mono ?_); rintro e w' ⟨rfl,⟨nd,rfl⟩⟩))
   go_ret
   exact ⟨by first|rfl|(simp; done)|(simp [*]; done),by repeat (first|exact Drawn0.refl _|apply Drawn0.step)⟩
  | false=>
   rw [c3,he] at hq
   clear c3 he
   go_enter Tryd.func49,Tryd.ntmps49
   go_wp2_with (first|(go_at_call 73; (with_reducible refine (hq _).mono ?_); rintro e w' ⟨rfl,⟨nd,rfl⟩⟩))
   go_ret
   exact ⟨by first|rfl|(simp; done)|(simp [*]; done),by repeat (first|exact Drawn0.refl _|apply Drawn0.step)⟩
def BQ.f (a0:ByteArray):Option (Bool):=if a0.toList=([100,101,115,105,103,110]:List UInt8) then (some true) else (if a0.toList=([111,114,100,101,114]:List UInt8) then (some true) else (if a0.toList=([109,105,114,114,111,114]:List UInt8) then (some true) else (if a0.toList=([116,105,101,114]:List UInt8) then (some true) else (if a0.toList=([97,110,103,108,101]:List UInt8) then (some true) else (if a0.toList=([97,116]:List UInt8) then (some true) else (if a0.toList=([100,101,112,116,104]:List UInt8) then (some true) else (if a0.toList=([109,101,101,116]:List UInt8) then (some true) else (if a0.toList=([101,100,103,101]:List UInt8) then (some true) else (if a0.toList=([104,101,105,103,104,116]:List UInt8) then (some true) else (if a0.toList=([116,104,114,111,117,103,104]:List UInt8) then (some true) else (some false)))))))))))
set_option maxHeartbeats 8000000 in
theorem BQ.calls (a0:ByteArray) (r:Bool) (w:World) (h:BQ.f a0=some r):
  Calls Tryd.prog 50 #[.string a0] w fun e w'=>e= .returned (.bool r)∧Drawn0 w w':=by
 have H:(if a0.toList=([100,101,115,105,103,110]:List UInt8) then (some true) else (if a0.toList=([111,114,100,101,114]:List UInt8) then (some true) else (if a0.toList=([109,105,114,114,111,114]:List UInt8) then (some true) else (if a0.toList=([116,105,101,114]:List UInt8) then (some true) else (if a0.toList=([97,110,103,108,101]:List UInt8) then (some true) else (if a0.toList=([97,116]:List UInt8) then (some true) else (if a0.toList=([100,101,112,116,104]:List UInt8) then (some true) else (if a0.toList=([109,101,101,116]:List UInt8) then (some true) else (if a0.toList=([101,100,103,101]:List UInt8) then (some true) else (if a0.toList=([104,101,105,103,104,116]:List UInt8) then (some true) else (if a0.toList=([116,104,114,111,117,103,104]:List UInt8) then (some true) else (some false))))))))))))=some r:=h
 clear h
 by_cases c2:a0.toList=([100,101,115,105,103,110]:List UInt8)
 ·rw [if_pos c2] at H
  have c2b0:(a0.toList==([100,101,115,105,103,110]:List UInt8))=true:=beq_iff_eq.mpr c2
  have c2b1:(a0.toList !=([100,101,115,105,103,110]:List UInt8))=false:=bne_eq_false_iff_eq.mpr c2
  clear c2
  obtain rfl:=Option.some.inj H
  go_enter Tryd.func50,Tryd.ntmps50
  go_wp2
  go_ret
  exact ⟨by first|rfl|(simp; done)|(simp [*]; done),by repeat (first|exact Drawn0.refl _|apply Drawn0.step)⟩
 ·rw [if_neg c2] at H
  have c2b0:(a0.toList==([100,101,115,105,103,110]:List UInt8))=false:=beq_eq_false_iff_ne.mpr c2
  have c2b1:(a0.toList !=([100,101,115,105,103,110]:List UInt8))=true:=bne_iff_ne.mpr c2
  by_cases c3:a0.toList=([111,114,100,101,114]:List UInt8)
  ·rw [if_pos c3] at H
   have c3b0:(a0.toList==([111,114,100,101,114]:List UInt8))=true:=beq_iff_eq.mpr c3
   have c3b1:(a0.toList !=([111,114,100,101,114]:List UInt8))=false:=bne_eq_false_iff_eq.mpr c3
   clear c3
   obtain rfl:=Option.some.inj H
   go_enter Tryd.func50,Tryd.ntmps50
   go_wp2
   go_ret
   exact ⟨by first|rfl|(simp; done)|(simp [*]; done),by repeat (first|exact Drawn0.refl _|apply Drawn0.step)⟩
  ·rw [if_neg c3] at H
   have c3b0:(a0.toList==([111,114,100,101,114]:List UInt8))=false:=beq_eq_false_iff_ne.mpr c3
   have c3b1:(a0.toList !=([111,114,100,101,114]:List UInt8))=true:=bne_iff_ne.mpr c3
   by_cases c4:a0.toList=([109,105,114,114,111,114]:List UInt8)
   ·rw [if_pos c4] at H
    have c4b0:(a0.toList==([109,105,114,114,111,114]:List UInt8))=true:=beq_iff_eq.mpr c4
    have c4b1:(a0.toList !=([109,105,114,114,111,114]:List UInt8))=false:=bne_eq_false_iff_eq.mpr c4
    clear c4
    obtain rfl:=Option.some.inj H
    go_enter Tryd.func50,Tryd.ntmps50
    go_wp2
    go_ret
    exact ⟨by first|rfl|(simp; done)|(simp [*]; done),by repeat (first|exact Drawn0.refl _|apply Drawn0.step)⟩
   ·rw [if_neg c4] at H
    have c4b0:(a0.toList==([109,105,114,114,111,114]:List UInt8))=false:=beq_eq_false_iff_ne.mpr c4
    have c4b1:(a0.toList !=([109,105,114,114,111,114]:List UInt8))=true:=bne_iff_ne.mpr c4
    by_cases c5:a0.toList=([116,105,101,114]:List UInt8)
    ·rw [if_pos c5] at H
     have c5b0:(a0.toList==([116,105,101,114]:List UInt8))=true:=beq_iff_eq.mpr c5
     have c5b1:(a0.toList !=([116,105,101,114]:List UInt8))=false:=bne_eq_false_iff_eq.mpr c5
     clear c5
     obtain rfl:=Option.some.inj H
     go_enter Tryd.func50,Tryd.ntmps50
     go_wp2
     go_ret
     exact ⟨by first|rfl|(simp; done)|(simp [*]; done),by repeat (first|exact Drawn0.refl _|apply Drawn0.step)⟩
    ·rw [if_neg c5] at H
     have c5b0:(a0.toList==([116,105,101,114]:List UInt8))=false:=beq_eq_false_iff_ne.mpr c5
     have c5b1:(a0.toList !=([116,105,101,114]:List UInt8))=true:=bne_iff_ne.mpr c5
     by_cases c6:a0.toList=([97,110,103,108,101]:List UInt8)
     ·rw [if_pos c6] at H
      have c6b0:(a0.toList==([97,110,103,108,101]:List UInt8))=true:=beq_iff_eq.mpr c6
      have c6b1:(a0.toList !=([97,110,103,108,101]:List UInt8))=false:=bne_eq_false_iff_eq.mpr c6
      clear c6
      obtain rfl:=Option.some.inj H
      go_enter Tryd.func50,Tryd.ntmps50
      go_wp2
      go_ret
      exact ⟨by first|rfl|(simp; done)|(simp [*]; done),by repeat (first|exact Drawn0.refl _|apply Drawn0.step)⟩
     ·rw [if_neg c6] at H
      have c6b0:(a0.toList==([97,110,103,108,101]:List UInt8))=false:=beq_eq_false_iff_ne.mpr c6
      have c6b1:(a0.toList !=([97,110,103,108,101]:List UInt8))=true:=bne_iff_ne.mpr c6
      by_cases c7:a0.toList=([97,116]:List UInt8)
      ·rw [if_pos c7] at H
       have c7b0:(a0.toList==([97,116]:List UInt8))=true:=beq_iff_eq.mpr c7
       have c7b1:(a0.toList !=([97,116]:List UInt8))=false:=bne_eq_false_iff_eq.mpr c7
       clear c7
       obtain rfl:=Option.some.inj H
       go_enter Tryd.func50,Tryd.ntmps50
       go_wp2
       go_ret
       exact ⟨by first|rfl|(simp; done)|(simp [*]; done),by repeat (first|exact Drawn0.refl _|apply Drawn0.step)⟩
      ·rw [if_neg c7] at H
       have c7b0:(a0.toList==([97,116]:List UInt8))=false:=beq_eq_false_iff_ne.mpr c7
       have c7b1:(a0.toList !=([97,116]:List UInt8))=true:=bne_iff_ne.mpr c7
       by_cases c8:a0.toList=([100,101,112,116,104]:List UInt8)
       ·rw [if_pos c8] at H
        have c8b0:(a0.toList==([100,101,112,116,104]:List UInt8))=true:=beq_iff_eq.mpr c8
        have c8b1:(a0.toList !=([100,101,112,116,104]:List UInt8))=false:=bne_eq_false_iff_eq.mpr c8
        clear c8
        obtain rfl:=Option.some.inj H
        go_enter Tryd.func50,Tryd.ntmps50
        go_wp2
        go_ret
        exact ⟨by first|rfl|(simp; done)|(simp [*]; done),by repeat (first|exact Drawn0.refl _|apply Drawn0.step)⟩
       ·rw [if_neg c8] at H
        have c8b0:(a0.toList==([100,101,112,116,104]:List UInt8))=false:=beq_eq_false_iff_ne.mpr c8
        have c8b1:(a0.toList !=([100,101,112,116,104]:List UInt8))=true:=bne_iff_ne.mpr c8
        by_cases c9:a0.toList=([109,101,101,116]:List UInt8)
        ·rw [if_pos c9] at H
         have c9b0:(a0.toList==([109,101,101,116]:List UInt8))=true:=beq_iff_eq.mpr c9
         have c9b1:(a0.toList !=([109,101,101,116]:List UInt8))=false:=bne_eq_false_iff_eq.mpr c9
         clear c9
         obtain rfl:=Option.some.inj H
         go_enter Tryd.func50,Tryd.ntmps50
         go_wp2
         go_ret
         exact ⟨by first|rfl|(simp; done)|(simp [*]; done),by repeat (first|exact Drawn0.refl _|apply Drawn0.step)⟩
        ·rw [if_neg c9] at H
         have c9b0:(a0.toList==([109,101,101,116]:List UInt8))=false:=beq_eq_false_iff_ne.mpr c9
         have c9b1:(a0.toList !=([109,101,101,116]:List UInt8))=true:=bne_iff_ne.mpr c9
         by_cases c10:a0.toList=([101,100,103,101]:List UInt8)
         ·rw [if_pos c10] at H
          have c10b0:(a0.toList==([101,100,103,101]:List UInt8))=true:=beq_iff_eq.mpr c10
          have c10b1:(a0.toList !=([101,100,103,101]:List UInt8))=false:=bne_eq_false_iff_eq.mpr c10
          clear c10
          obtain rfl:=Option.some.inj H
          go_enter Tryd.func50,Tryd.ntmps50
          go_wp2
          go_ret
          exact ⟨by first|rfl|(simp; done)|(simp [*]; done),by repeat (first|exact Drawn0.refl _|apply Drawn0.step)⟩
         ·rw [if_neg c10] at H
          have c10b0:(a0.toList==([101,100,103,101]:List UInt8))=false:=beq_eq_false_iff_ne.mpr c10
          have c10b1:(a0.toList !=([101,100,103,101]:List UInt8))=true:=bne_iff_ne.mpr c10
          by_cases c11:a0.toList=([104,101,105,103,104,116]:List UInt8)
          ·rw [if_pos c11] at H
           have c11b0:(a0.toList==([104,101,105,103,104,116]:List UInt8))=true:=beq_iff_eq.mpr c11
           have c11b1:(a0.toList !=([104,101,105,103,104,116]:List UInt8))=false:=bne_eq_false_iff_eq.mpr c11
           clear c11
           obtain rfl:=Option.some.inj H
           go_enter Tryd.func50,Tryd.ntmps50
           go_wp2
           go_ret
           exact ⟨by first|rfl|(simp; done)|(simp [*]; done),by repeat (first|exact Drawn0.refl _|apply Drawn0.step)⟩
          ·rw [if_neg c11] at H
           have c11b0:(a0.toList==([104,101,105,103,104,116]:List UInt8))=false:=beq_eq_false_iff_ne.mpr c11
           have c11b1:(a0.toList !=([104,101,105,103,104,116]:List UInt8))=true:=bne_iff_ne.mpr c11
           by_cases c12:a0.toList=([116,104,114,111,117,103,104]:List UInt8)
           ·rw [if_pos c12] at H
            have c12b0:(a0.toList==([116,104,114,111,117,103,104]:List UInt8))=true:=beq_iff_eq.mpr c12
            have c12b1:(a0.toList !=([116,104,114,111,117,103,104]:List UInt8))=false:=bne_eq_false_iff_eq.mpr c12
            clear c12
            obtain rfl:=Option.some.inj H
            go_enter Tryd.func50,Tryd.ntmps50
            go_wp2
            go_ret
            exact ⟨by first|rfl|(simp; done)|(simp [*]; done),by repeat (first|exact Drawn0.refl _|apply Drawn0.step)⟩
           ·rw [if_neg c12] at H
            have c12b0:(a0.toList==([116,104,114,111,117,103,104]:List UInt8))=false:=beq_eq_false_iff_ne.mpr c12
            have c12b1:(a0.toList !=([116,104,114,111,117,103,104]:List UInt8))=true:=bne_iff_ne.mpr c12
            obtain rfl:=Option.some.inj H
            go_enter Tryd.func50,Tryd.ntmps50
            go_wp2
            go_ret
            exact ⟨by first|rfl|(simp; done)|(simp [*]; done),by repeat (first|exact Drawn0.refl _|apply Drawn0.step)⟩
def BN.f (a0:ByteArray):Option (Bool):=if a0.toList=([]:List UInt8) then (some false) else (if (a0.size:Int)≤30 then ((Bj.f a0).bind fun t101=>(if t101=(a0.size:Int) then ((BQ.f a0).bind fun t102=>(some (!t102))) else (some false))) else (some false))
set_option maxHeartbeats 8000000 in
theorem BN.calls (a0:ByteArray) (r:Bool) (w:World) (h:BN.f a0=some r):
  Calls Tryd.prog 29 #[.string a0] w fun e w'=>e= .returned (.bool r)∧Drawn0 w w':=by
 have H:(if a0.toList=([]:List UInt8) then (some false) else (if (a0.size:Int)≤30 then ((Bj.f a0).bind fun t101=>(if t101=(a0.size:Int) then ((BQ.f a0).bind fun t102=>(some (!t102))) else (some false))) else (some false)))=some r:=h
 clear h
 by_cases c2:a0.toList=([]:List UInt8)
 ·rw [if_pos c2] at H
  have c2b0:(a0.toList==([]:List UInt8))=true:=beq_iff_eq.mpr c2
  have c2b1:(a0.toList !=([]:List UInt8))=false:=bne_eq_false_iff_eq.mpr c2
  clear c2
  obtain rfl:=Option.some.inj H
  go_enter Tryd.func29,Tryd.ntmps29
  go_wp2
  go_ret
  exact ⟨by first|rfl|(simp; done)|(simp [*]; done),by repeat (first|exact Drawn0.refl _|apply Drawn0.step)⟩
 ·rw [if_neg c2] at H
  have c2b0:(a0.toList==([]:List UInt8))=false:=beq_eq_false_iff_ne.mpr c2
  have c2b1:(a0.toList !=([]:List UInt8))=true:=bne_iff_ne.mpr c2
  by_cases c3:(a0.size:Int)≤30
  ·rw [if_pos c3] at H
   have c3b0:decide ((a0.size:Int)≤30)=true:=decide_eq_true c3
   have c3b1:decide (a0.size≤30)=true:=decide_eq_true zI
   clear c3
   replace H:=Option.bind_eq_some_iff.mp H
   obtain ⟨t101,A40,H⟩:=H
   replace H:(if t101=(a0.size:Int) then ((BQ.f a0).bind fun t102=>(some (!t102))) else (some false))=some r:=H
   have A4:=yA A40
   clear A40
   by_cases c5:t101=(a0.size:Int)
   ·rw [if_pos c5] at H
    have c5b0:(t101==(a0.size:Int))=true:=beq_iff_eq.mpr c5
    have c5b1:(t101 !=(a0.size:Int))=false:=bne_eq_false_iff_eq.mpr c5
    clear c5
    replace H:=Option.bind_eq_some_iff.mp H
    obtain ⟨t102,A60,H⟩:=H
    replace H:(some (!t102))=some r:=H
    have A6:=yA A60
    clear A60
    obtain rfl:=Option.some.inj H
    go_enter Tryd.func29,Tryd.ntmps29
    go_wp2_with (first|(go_at_call 49; (with_reducible refine (Bj.calls a0 t101 _ A4.out).mono ?_); rintro e w' ⟨rfl,⟨nd,rfl⟩⟩)|(go_at_call 50; (with_reducible refine (BQ.calls a0 t102 _ A6.out).mono ?_); rintro e w' ⟨rfl,⟨nd,rfl⟩⟩))
    go_ret
    exact ⟨by first|rfl|(simp; done)|(simp [*]; done),by repeat (first|exact Drawn0.refl _|apply Drawn0.step)⟩
   ·rw [if_neg c5] at H
    have c5b0:(t101==(a0.size:Int))=false:=beq_eq_false_iff_ne.mpr c5
    have c5b1:(t101 !=(a0.size:Int))=true:=bne_iff_ne.mpr c5
    obtain rfl:=Option.some.inj H
    go_enter Tryd.func29,Tryd.ntmps29
    go_wp2_with (first|(go_at_call 49; (with_reducible refine (Bj.calls a0 t101 _ A4.out).mono ?_); rintro e w' ⟨rfl,⟨nd,rfl⟩⟩))
    go_ret
    exact ⟨by first|rfl|(simp; done)|(simp [*]; done),by repeat (first|exact Drawn0.refl _|apply Drawn0.step)⟩
  ·rw [if_neg c3] at H
   have c3b0:decide ((a0.size:Int)≤30)=false:=decide_eq_false c3
   have c3b1:decide (a0.size≤30)=false:=decide_eq_false zI
   clear c3
   obtain rfl:=Option.some.inj H
   go_enter Tryd.func29,Tryd.ntmps29
   go_wp2
   go_ret
   exact ⟨by first|rfl|(simp; done)|(simp [*]; done),by repeat (first|exact Drawn0.refl _|apply Drawn0.step)⟩
def ixGo {α:Type} (p:α→Bool):List α→Nat→Int
 |[],_=> -1
 |x::r,i=>if p x=true then (i:Int) else ixGo p r (i+1)
theorem DP {α:Type} (p:α→Bool):∀(l:List α) (i:Nat),decide (0≤ixGo p l i)=l.any p
 |[],i=>rfl
 | x::r,i=>by
  rw [ixGo,List.any_cons]
  cases h:p x with
  |true=>simp
  |false=>simpa using DP p r (i+1)
theorem Dk {α:Type} (p:α→Bool) (l:List α) (z:α) (n:Nat) (h:n<l.length):ixGo p (l.drop n) n=if p (l.getD n z)=true then (n:Int) else ixGo p (l.drop (n+1)) (n+1):=by
 rw [List.drop_eq_getElem_cons h,ixGo,List.getD_eq_getElem?_getD,List.getElem?_eq_getElem h]; rfl
theorem vl_same (x:S49) (s:ByteArray) (v1 v2 v3:Value) (A3:Option Addr) (c3:Nat) (g:Nat) (w:World) (hb:w.heap[g]? =some (.cells #[.string s,v1,v2,v3] 49 (0,0))):
  Calls Tryd.prog 31 #[.agg #[.string x.f0,.int .i64 x.f1,.int .i64 x.f2,.slice A3 x.f3.length c3],.pointer (some ⟨g,0,none⟩)] w fun e w'=>e= .returned (.bool (x.f0.toList==s.toList))∧Below w.heap.size w w':=by
 have hc:w.cell? ⟨g,0,none⟩=some (.string s):=(AK hb 0).trans rfl
 have hf:=AJ hb 0
 have hlt:g<w.heap.size:=B0 hb
 have hne:g≠w.heap.size:=by omega
 have HB:=yA hb
 clear hb
 go_enter Tryd.func31,Tryd.ntmps31
 go_wp2
 all_goals (go_ret; exact ⟨by first|rfl|(simp; done)|(simp [*]; done),(Below.refl _ _).alloc (Nat.le_refl _) _⟩)
def PredT (w0:World) (g:Nat) (lb:Array Value) (p:S49→Bool):Prop:=
 ∀(W:World) (x:S49) (A3:Option Addr) (c3:Nat),Below w0.heap.size w0 W→Calls Tryd.prog g (#[.agg #[.string x.f0,.int .i64 x.f1,.int .i64 x.f2,.slice A3 x.f3.length c3]]++lb) W fun e w'=>e= .returned (.bool (p x))∧Below w0.heap.size w0 w'
open Go.Shelf in
theorem ixf_T (w0:World) (g:Nat) (lb:Array Value) (p:S49→Bool) (eg:∀args w,(callFunc g args).run Tryd.prog w= .ok (.enter g args) w) (hp:PredT w0 g lb p)
  (A:Option Addr) (c:Nat) (l:List S49) (hr:Kd.C k49 w0 A l.length l) (w:World) (hw:Below w0.heap.size w0 w):
  Calls Tryd.prog 51 #[.slice A l.length c,.func (.func g) #[] lb] w fun e w'=>e= .returned (.int .i64 (ixGo p l 0))∧Below w0.heap.size w0 w':=by
 have HL:=yA hr.2.1
 have HR:=yA hr
 have HW:=yA hw
 have HP:=yA hp
 clear hr hw hp
 go_enter Tryd.func51,Tryd.ntmps51
 go_wp2
 go_loopg [5,8] l.length (fun gg v5 v8 w'=>∃n:Nat,v8= .int .i64 (n:Int)∧Aside0 (n≤l.length)∧Aside0 (l.length-n≤gg)∧Aside0 (ixGo p (l.drop n) n=ixGo p l 0)∧Aside0 (Below w0.heap.size w0 w'))
 case atStart=>exact ⟨0,rfl,⟨Nat.zero_le _⟩,⟨by omega⟩,⟨by rw [List.drop_zero]⟩,⟨by repeat (first|exact HW.out|apply AC|apply AD)⟩⟩
 case round=>
  obtain ⟨n,rfl,H1,H2,H3,HB⟩:=hrel
  by_cases c1:n<l.length
  ·have c1b:decide ((n:Int)<(l.length:Int))=true:=decide_eq_true zI
   obtain ⟨ad,A3,c3,e1,hx0,hx1,hx2,hx3,hl3,hi3⟩:=C9 HR.out (n:Int) zI zI
   cases e1
   replace hx0:=(HB.out.cell (World.block_lt_of_cell? w0 _ hx0)).trans hx0
   replace hx1:=(HB.out.cell (World.block_lt_of_cell? w0 _ hx1)).trans hx1
   replace hx2:=(HB.out.cell (World.block_lt_of_cell? w0 _ hx2)).trans hx2
   replace hx3:=(HB.out.cell (World.block_lt_of_cell? w0 _ hx3)).trans hx3
   have hq:=HP.out wr (AM l n) A3 c3 HB.out
   have h3:=yA (H3.out.symm.trans (Dk p l z49 n c1))
   have hy:l.getD n z49=AM l n:=rfl
   rw [hy] at h3
   clear hy hl3 hi3
   simp only [Int.toNat_natCast] at hx0 hx1 hx2 hx3
   cases c2:p (AM l n) with
   | true=>
    rw [c2] at hq
    go_wp2_with (first|(go_at_fn g; (with_reducible refine hq.mono ?_); rintro e w' ⟨rfl,hb⟩))
    go_ret
    exact ⟨by rw [h3.out,if_pos c2]; rfl,hb⟩
   | false=>
    rw [c2] at hq
    go_wp2_with (first|(go_at_fn g; (with_reducible refine hq.mono ?_); rintro e w' ⟨rfl,hb⟩))
    go_roundg (l.length-(n+1))
    case measure=>have:=H2.out; omega
    case rel=>exact ⟨n+1,by have:=HL.out; rw [show wrap64 ((n:Int)+1)=((n+1:Nat):Int) from by unfold wrap64; omega],⟨by omega⟩,⟨by omega⟩,⟨by rw [h3.out,if_neg (by simp [c2])]⟩,⟨hb⟩⟩
  ·have c1b:decide ((n:Int)<(l.length:Int))=false:=decide_eq_false zI
   have h3:=yA H3.out
   go_wp2
   go_ret
   exact ⟨by rw [←h3.out,List.drop_eq_nil_of_le zI]; rfl,by repeat (first|exact HB.out|apply AC|apply AD)⟩
open Go.Shelf in
theorem ctf_T (w0:World) (g:Nat) (lb:Array Value) (p:S49→Bool) (eg:∀args w,(callFunc g args).run Tryd.prog w= .ok (.enter g args) w) (hp:PredT w0 g lb p)
  (A:Option Addr) (c:Nat) (l:List S49) (hr:Kd.C k49 w0 A l.length l):
  Calls Tryd.prog 30 #[.slice A l.length c,.func (.func g) #[] lb] w0 fun e w'=>e= .returned (.bool (l.any p))∧Below w0.heap.size w0 w':=by
 have hq:=fun w (hw:Below w0.heap.size w0 w)=>ixf_T w0 g lb p eg hp A c l hr w hw
 have ha:=yA (DP p l 0)
 clear hp hr
 go_enter Tryd.func30,Tryd.ntmps30
 go_wp2_with (first|(go_at_call 51; (with_reducible refine (hq _ (by repeat (first|exact Below.refl _ _|apply AC|apply AD))).mono ?_); rintro e w' ⟨rfl,hb⟩))
 go_ret
 exact ⟨by rw [←ha.out]; rfl,hb⟩
def Bt.f (l0:List S49) (a1:ByteArray):Option Bool:=some (l0.any fun x=>x.f0.toList==a1.toList)
open Go.Shelf in
theorem Bt.calls (A0:Option Addr) (c0:Nat) (l0:List S49) (a1:ByteArray) (r:Bool) (w:World) (hr0:Kd.C k49 w A0 l0.length l0) (hc0:l0.length≤c0) (h:Bt.f l0 a1=some r)
  {g:Nat} {v1 v2 v3:Value} (hb:w.heap[g]? =some (.cells #[.string a1,v1,v2,v3] 49 (0,0))):
  Calls Tryd.prog 30 #[.slice A0 l0.length c0,.func (.func 31) #[] #[.pointer (some ⟨g,0,none⟩)]] w fun e w'=>e= .returned (.bool r)∧Below w.heap.size w w':=by
 obtain rfl:=Option.some.inj h
 have hp:PredT w 31 #[.pointer (some ⟨g,0,none⟩)] (fun x=>x.f0.toList==a1.toList):=fun W x A3 c3 hW=>by
  show Calls Tryd.prog 31 #[.agg #[.string x.f0,.int .i64 x.f1,.int .i64 x.f2,.slice A3 x.f3.length c3],.pointer (some ⟨g,0,none⟩)] W _
  exact (vl_same x a1 v1 v2 v3 A3 c3 g W (AP hb hW)).mono fun e w' h=>⟨h.1,C5 hW hW.size h.2⟩
 exact ctf_T w 31 _ _ (enters_of Tryd.func31 zE rfl) hp A0 c0 l0 hr0
end Go.Proofs.YtdadecjefafflaaDoor.PChk
end
section
namespace Go.Proofs.YtdadecjefafflaaDoor.PChk
set_option maxRecDepth 100000
open Go.RowKit Go.Proofs.YtdadecjefafflaaDoorW.PrintWords Go.Proofs.YtdadecjefafflaaDoorW.PrintLast Go.Proofs.YtdadecjefafflaaDoorW.PrintMore
attribute [local go_sem] Ba BX Be Bd BS BR BZ BW
mutual
def AN.j0:Nat→Bool→Int→List (S49)→Option (Bool)
 |0,_,_,_=>none
 |k+1,x20,x104000,x104001=>if x20=true then (some false) else (AN.l0 k x104001 (x104001.length:Int) 0 x104000 x104001)
def AN.l0:Nat→List (S49)→Int→Int→Int→List (S49)→Option (Bool)
 |0,_,_,_,_,_=>none
 |k+1,x22,x23,x24,x104000,x104001=>if x24<x23 then (if 0≤x24 then (if x24<(x22.length:Int) then ((BN.f ((AM x22 x24).f0)).bind fun t106=>(if t106=true then (if ((AM x22 x24).f1)<1 then (AN.j2 k x24 x22 x23 x24 true x104000 x104001 ((AM x22 x24).f0) ((AM x22 x24).f1) ((AM x22 x24).f2) ((AM x22 x24).f3)) else (if ((AM x22 x24).f1)>10000 then (AN.j2 k x24 x22 x23 x24 true x104000 x104001 ((AM x22 x24).f0) ((AM x22 x24).f1) ((AM x22 x24).f2) ((AM x22 x24).f3)) else (if ((AM x22 x24).f2)<0 then (AN.j2 k x24 x22 x23 x24 true x104000 x104001 ((AM x22 x24).f0) ((AM x22 x24).f1) ((AM x22 x24).f2) ((AM x22 x24).f3)) else (AN.j2 k x24 x22 x23 x24 (decide (((AM x22 x24).f2)>1000000)) x104000 x104001 ((AM x22 x24).f0) ((AM x22 x24).f1) ((AM x22 x24).f2) ((AM x22 x24).f3))))) else (AN.j2 k x24 x22 x23 x24 true x104000 x104001 ((AM x22 x24).f0) ((AM x22 x24).f1) ((AM x22 x24).f2) ((AM x22 x24).f3)))) else (none)) else (none)) else (some true)
def AN.j2:Nat→Int→List (S49)→Int→Int→Bool→Int→List (S49)→ByteArray→Int→Int→List Int→Option (Bool)
 |0,_,_,_,_,_,_,_,_,_,_,_=>none
 |k+1,x3,x22,x23,x24,x52,x104000,x104001,x106000,x106001,x106002,x106003=>if x52=true then (some false) else (if 0≤x3 then (if x3≤(x104001.length:Int) then ((Bt.f (x104001.take (x3:Int).toNat) x106000).bind fun t111=>(if t111=true then (some false) else (AN.l1 k x3 x22 x23 x24 x106003 (x106003.length:Int) 0 x104000 x104001 x106000 x106001 x106002 x106003))) else (none)) else (none))
def AN.l1:Nat→Int→List (S49)→Int→Int→List Int→Int→Int→Int→List (S49)→ByteArray→Int→Int→List Int→Option (Bool)
 |0,_,_,_,_,_,_,_,_,_,_,_,_,_=>none
 |k+1,x3,x22,x23,x24,x60,x61,x62,x104000,x104001,x106000,x106001,x106002,x106003=>if x62<x61 then (if 0≤x62 then (if x62<(x60.length:Int) then (if (rd x60 x62)<0 then (some false) else (if (rd x60 x62)≥x3 then (some false) else (if x62>0 then (if 0≤(wrap64 (x62-1)) then (if (wrap64 (x62-1))<(x106003.length:Int) then (if (rd x106003 (wrap64 (x62-1)))≥(rd x60 x62) then (some false) else (AN.l1 k x3 x22 x23 x24 x60 x61 (wrap64 (x62+1)) x104000 x104001 x106000 x106001 x106002 x106003)) else (none)) else (none)) else (AN.l1 k x3 x22 x23 x24 x60 x61 (wrap64 (x62+1)) x104000 x104001 x106000 x106001 x106002 x106003)))) else (none)) else (none)) else (AN.l0 k x22 x23 (wrap64 (x24+1)) x104000 x104001)
end
def AN.f (k:Nat) (A8:Int) (l0_1:List (S49)):Option (Bool):=if A8<1 then (AN.j0 k true A8 l0_1) else (if A8>4 then (AN.j0 k true A8 l0_1) else (AN.j0 k (decide ((l0_1.length:Int)>40)) A8 l0_1))
theorem AN.mono_l:∀k,(∀y0 y1 y2,LeO (AN.j0 k y0 y1 y2) (AN.j0 (k+1) y0 y1 y2))∧(∀y0 y1 y2 y3 y4,LeO (AN.l0 k y0 y1 y2 y3 y4) (AN.l0 (k+1) y0 y1 y2 y3 y4))∧(∀y0 y1 y2 y3 y4 y5 y6 y7 y8 y9 y10,LeO (AN.j2 k y0 y1 y2 y3 y4 y5 y6 y7 y8 y9 y10) (AN.j2 (k+1) y0 y1 y2 y3 y4 y5 y6 y7 y8 y9 y10))∧(∀y0 y1 y2 y3 y4 y5 y6 y7 y8 y9 y10 y11 y12,LeO (AN.l1 k y0 y1 y2 y3 y4 y5 y6 y7 y8 y9 y10 y11 y12) (AN.l1 (k+1) y0 y1 y2 y3 y4 y5 y6 y7 y8 y9 y10 y11 y12))
 |0=>⟨fun _ _ _ r h=>by simp [AN.j0] at h,fun _ _ _ _ _ r h=>by simp [AN.l0] at h,fun _ _ _ _ _ _ _ _ _ _ _ r h=>by simp [AN.j2] at h,fun _ _ _ _ _ _ _ _ _ _ _ _ _ r h=>by simp [AN.l1] at h⟩
 | k +1=>by
  obtain ⟨ih0,ih1,ih2,ih3⟩:=AN.mono_l k
  refine ⟨?_,?_,?_,?_⟩
  ·intro y0 y1 y2
   unfold AN.j0
   repeat' first
   |(with_reducible exact ih0 _ _ _)
   |(with_reducible exact ih1 _ _ _ _ _)
   |(with_reducible exact ih2 _ _ _ _ _ _ _ _ _ _ _)
   |(with_reducible exact ih3 _ _ _ _ _ _ _ _ _ _ _ _ _)
   |(with_reducible exact LeO.refl _)
   |(with_reducible exact LeO.none _)
   |(with_reducible refine LeO.ite ?_ ?_)
   |(with_reducible refine LeO.bind ?_ (fun _=> ?_))
   |exact ih0 _ _ _
   |exact ih1 _ _ _ _ _
   |exact ih2 _ _ _ _ _ _ _ _ _ _ _
   |exact ih3 _ _ _ _ _ _ _ _ _ _ _ _ _
   |exact LeO.none _
   |refine LeO.ite ?_ ?_
   |refine LeO.bind ?_ (fun _=> ?_)
  ·intro y0 y1 y2 y3 y4
   unfold AN.l0
   repeat' first
   |(with_reducible exact ih0 _ _ _)
   |(with_reducible exact ih1 _ _ _ _ _)
   |(with_reducible exact ih2 _ _ _ _ _ _ _ _ _ _ _)
   |(with_reducible exact ih3 _ _ _ _ _ _ _ _ _ _ _ _ _)
   |(with_reducible exact LeO.refl _)
   |(with_reducible exact LeO.none _)
   |(with_reducible refine LeO.ite ?_ ?_)
   |(with_reducible refine LeO.bind ?_ (fun _=> ?_))
   |exact ih0 _ _ _
   |exact ih1 _ _ _ _ _
   |exact ih2 _ _ _ _ _ _ _ _ _ _ _
   |exact ih3 _ _ _ _ _ _ _ _ _ _ _ _ _
   |exact LeO.none _
   |refine LeO.ite ?_ ?_
   |refine LeO.bind ?_ (fun _=> ?_)
  ·intro y0 y1 y2 y3 y4 y5 y6 y7 y8 y9 y10
   unfold AN.j2
   repeat' first
   |(with_reducible exact ih0 _ _ _)
   |(with_reducible exact ih1 _ _ _ _ _)
   |(with_reducible exact ih2 _ _ _ _ _ _ _ _ _ _ _)
   |(with_reducible exact ih3 _ _ _ _ _ _ _ _ _ _ _ _ _)
   |(with_reducible exact LeO.refl _)
   |(with_reducible exact LeO.none _)
   |(with_reducible refine LeO.ite ?_ ?_)
   |(with_reducible refine LeO.bind ?_ (fun _=> ?_))
   |exact ih0 _ _ _
   |exact ih1 _ _ _ _ _
   |exact ih2 _ _ _ _ _ _ _ _ _ _ _
   |exact ih3 _ _ _ _ _ _ _ _ _ _ _ _ _
   |exact LeO.none _
   |refine LeO.ite ?_ ?_
   |refine LeO.bind ?_ (fun _=> ?_)
  ·intro y0 y1 y2 y3 y4 y5 y6 y7 y8 y9 y10 y11 y12
   unfold AN.l1
   repeat' first
   |(with_reducible exact ih0 _ _ _)
   |(with_reducible exact ih1 _ _ _ _ _)
   |(with_reducible exact ih2 _ _ _ _ _ _ _ _ _ _ _)
   |(with_reducible exact ih3 _ _ _ _ _ _ _ _ _ _ _ _ _)
   |(with_reducible exact LeO.refl _)
   |(with_reducible exact LeO.none _)
   |(with_reducible refine LeO.ite ?_ ?_)
   |(with_reducible refine LeO.bind ?_ (fun _=> ?_))
   |exact ih0 _ _ _
   |exact ih1 _ _ _ _ _
   |exact ih2 _ _ _ _ _ _ _ _ _ _ _
   |exact ih3 _ _ _ _ _ _ _ _ _ _ _ _ _
   |exact LeO.none _
   |refine LeO.ite ?_ ?_
   |refine LeO.bind ?_ (fun _=> ?_)
theorem AN.mono:∀a0 a1 k,LeO (AN.f k a0 a1) (AN.f (k+1) a0 a1):=by
 intro a0 a1 k
 obtain ⟨ih0,ih1,ih2,ih3⟩:=AN.mono_l k
 unfold AN.f
 repeat' first
  |(with_reducible exact ih0 _ _ _)
  |(with_reducible exact ih1 _ _ _ _ _)
  |(with_reducible exact ih2 _ _ _ _ _ _ _ _ _ _ _)
  |(with_reducible exact ih3 _ _ _ _ _ _ _ _ _ _ _ _ _)
  |(with_reducible exact LeO.refl _)
  |(with_reducible exact LeO.none _)
  |(with_reducible refine LeO.ite ?_ ?_)
  |(with_reducible refine LeO.bind ?_ (fun _=> ?_))
  |exact ih0 _ _ _
  |exact ih1 _ _ _ _ _
  |exact ih2 _ _ _ _ _ _ _ _ _ _ _
  |exact ih3 _ _ _ _ _ _ _ _ _ _ _ _ _
  |exact LeO.none _
  |refine LeO.ite ?_ ?_
  |refine LeO.bind ?_ (fun _=> ?_)
set_option maxHeartbeats 8000000 in
theorem AN.calls (k : Nat) (A8 : Int) (A0_1:Option Addr) (c0_1:Nat) (l0_1:List (S49)) (r:Bool) (w:World) (hr0_1:Kd.C k49 w A0_1 l0_1.length l0_1) (hc0_1:l0_1.length≤c0_1) (h:AN.f k A8 l0_1=some r):
    Calls Tryd.prog 14 #[.agg #[.int .i64 A8,.slice A0_1 l0_1.length c0_1]] w fun e w'=>e= .returned (.bool r)∧Below w.heap.size w w':=by
  have hu33:=Tryd.underlying33
  have hu49:=Tryd.underlying49
  have HR0_1:=yA hr0_1
  have HC0_1:=yA hc0_1
  clear hr0_1 hc0_1
  have HB:=yA (Below.refl w.heap.size w)
  have H:(if A8<1 then (AN.j0 k true A8 l0_1) else (if A8>4 then (AN.j0 k true A8 l0_1) else (AN.j0 k (decide ((l0_1.length:Int)>40)) A8 l0_1)))=some r:=h
  clear h
  have HC2:=yA H
  clear H
  go_enter Tryd.func14,Tryd.ntmps14
  go_upto_region 1 with (first|((with_reducible refine Ar (N:=1) rfl ?_); (try (refine BI (by rfl) ?_; dsimp only)); refine Ap ?hg (N:=1) ?hd (cs:= #[.int .i64 A8,.slice A0_1 l0_1.length c0_1]) (t:=33) ?hr ?_; (case hd=>rfl); (case hg=>rfl); (case hr=>first|(go_simp; done)|(go_simp; rfl)); intro gb103 hg w3 hbox hb; have n0_:=yA (AO zB hb); have n1_:=yA (hbox); have n2_:=yA ((by rw [hg]; exact (AT zB):w.heap.size≤gb103)); have n3_:=yA ((by rw [hg]; exact (AT zB):w.heap.size≤gb103)); clear HB; have HB:=n0_; have BK103:=n1_; have GW103:=n2_; have GE103:=n3_; clear n0_ n1_ n2_ n3_; clear hb hbox hg))
  (try simp only [Act.put,List.setIfInBounds_toArray,List.set_cons_zero,List.set_cons_succ])
  go_cut [20] (fun v20 wc=>∃(kq:Nat) (x20_1:Bool),v20= .bool x20_1∧Aside0 (AN.j0 kq x20_1 A8 l0_1=some r)∧Aside0 (kq≤k)∧Aside0 (wc.heap[gb103]? =some (.cells #[.int .i64 A8,(.slice A0_1 l0_1.length c0_1)] 33 (0,0)))∧Aside0 (Below w.heap.size w wc))
  case first=>
    have H:=HC2.out
    clear HC2
    by_cases c4:A8<1
    · rw [if_pos c4] at H
      have c4b0:decide (A8<1)=true:=decide_eq_true c4
      clear c4
      (first|rw [c4b0]|(simp only [AR,AS]; rw [c4b0])|skip)
      have H':=yA H
      clear H
      have hcz5_0:w3.cell? ⟨gb103,0,none⟩=some (.int .i64 A8):=(AK BK103.out 0).trans rfl
      have hcz5_1:w3.cell? ⟨gb103,1,none⟩=some (.slice A0_1 l0_1.length c0_1):=(AK BK103.out 1).trans rfl
      have hfz5_0:=AJ BK103.out 0
      have hfz5_1:=AJ BK103.out 1
      go_wp2
      go_meet
      case rel=>exact ⟨_,(true),zG,H',⟨by first|omega|exact Nat.le_refl _⟩,⟨by (with_reducible repeat (first|refine AG ?_ _|refine AH ?_|refine AF ?_ _)); exact BK103.out⟩,⟨by repeat (first|(with_reducible first|exact HB.out|apply AE|apply AC|apply AD|refine AI ?_ GE103.out)|exact HB.out)⟩⟩
    · rw [if_neg c4] at H
      have c4b0:decide (A8<1)=false:=decide_eq_false c4
      clear c4
      (first|rw [c4b0]|(simp only [AR,AS]; rw [c4b0])|skip)
      by_cases c6:A8>4
      · rw [if_pos c6] at H
        have c6b0:decide (4<A8)=true:=decide_eq_true c6
        clear c6
        have H':=yA H
        clear H
        have hcz7_0:w3.cell? ⟨gb103,0,none⟩=some (.int .i64 A8):=(AK BK103.out 0).trans rfl
        have hcz7_1:w3.cell? ⟨gb103,1,none⟩=some (.slice A0_1 l0_1.length c0_1):=(AK BK103.out 1).trans rfl
        have hfz7_0:=AJ BK103.out 0
        have hfz7_1:=AJ BK103.out 1
        go_wp2
        go_meet
        case rel=>exact ⟨_,(true),zG,H',⟨by first|omega|exact Nat.le_refl _⟩,⟨by (with_reducible repeat (first|refine AG ?_ _|refine AH ?_|refine AF ?_ _)); exact BK103.out⟩,⟨by repeat (first|(with_reducible first|exact HB.out|apply AE|apply AC|apply AD|refine AI ?_ GE103.out)|exact HB.out)⟩⟩
      · rw [if_neg c6] at H
        have c6b0:decide (4<A8)=false:=decide_eq_false c6
        clear c6
        have H':=yA H
        clear H
        have hcz8_0:w3.cell? ⟨gb103,0,none⟩=some (.int .i64 A8):=(AK BK103.out 0).trans rfl
        have hcz8_1:w3.cell? ⟨gb103,1,none⟩=some (.slice A0_1 l0_1.length c0_1):=(AK BK103.out 1).trans rfl
        have hfz8_0:=AJ BK103.out 0
        have hfz8_1:=AJ BK103.out 1
        go_wp2
        go_meet
        case rel=>exact ⟨_,(decide ((l0_1.length:Int)>40)),zG,H',⟨by first|omega|exact Nat.le_refl _⟩,⟨by (with_reducible repeat (first|refine AG ?_ _|refine AH ?_|refine AF ?_ _)); exact BK103.out⟩,⟨by repeat (first|(with_reducible first|exact HB.out|apply AE|apply AC|apply AD|refine AI ?_ GE103.out)|exact HB.out)⟩⟩
  case rest =>
    clear HC2
    try clear c1
    try clear p2
    try clear c4
    try clear c4b0
    try clear c6
    try clear c6b0
    try clear hcz5_0
    try clear hcz5_1
    try clear hcz7_0
    try clear hcz7_1
    try clear hcz8_0
    try clear hcz8_1
    try clear hfz5_0
    try clear hfz5_1
    try clear hfz7_0
    try clear hfz7_1
    try clear hfz8_0
    try clear hfz8_1
    obtain ⟨kq,x20_1,rfl,HA,HJ1,BK103,HB⟩:=hcut
    cases kq with
    |zero=>exact absurd HA.out (by simp [AN.j0])
    | succ kj1=>
      have H:=HA.out
      clear HA
      simp only [AN.j0] at H
      by_cases c9:x20_1=true
      · subst c9
        have H1:(some false)=some r:=by rw [if_pos rfl] at H; exact H
        clear H
        have H:=H1
        clear H1
        obtain rfl:=Option.some.inj H
        go_wp2
        go_ret
        exact ⟨by first|rfl|(simp [AZ,AY]<;>rfl)|(simp [*,AZ,AY]<;>rfl),by repeat (first|(with_reducible first|exact HB.out|apply AE|apply AC|apply AD|refine AI ?_ GE103.out)|exact HB.out)⟩
      · replace c9 := Bool.eq_false_iff.mpr c9
        subst c9
        have H1:(AN.l0 kj1 l0_1 (l0_1.length:Int) 0 A8 l0_1)=some r:=by rw [if_neg (show ¬(false=true) by decide)] at H; exact H
        clear H
        have H:=H1
        clear H1
        have H':=yA H
        clear H
        have hcz10_0:wc.cell? ⟨gb103,0,none⟩=some (.int .i64 A8):=(AK BK103.out 0).trans rfl
        have hcz10_1:wc.cell? ⟨gb103,1,none⟩=some (.slice A0_1 l0_1.length c0_1):=(AK BK103.out 1).trans rfl
        have hfz10_0:=AJ BK103.out 0
        have hfz10_1:=AJ BK103.out 1
        go_wp2
        go_loopg [24] kj1 (fun kq v24 w'=>∃(x24_2:Int),v24= .int .i64 x24_2∧Aside0 (AN.l0 kq l0_1 (l0_1.length:Int) x24_2 A8 l0_1=some r)∧Aside0 (kq≤kj1)∧Aside0 (w'.heap[gb103]? =some (.cells #[.int .i64 A8,(.slice A0_1 l0_1.length c0_1)] 33 (0,0)))∧Aside0 (Below w.heap.size w w'))
        case atStart=>exact ⟨(0),zG,H',⟨Nat.le_refl _⟩,⟨by (with_reducible repeat (first|refine AG ?_ _|refine AH ?_|refine AF ?_ _)); exact BK103.out⟩,⟨by repeat (first|(with_reducible first|exact HB.out|apply AE|apply AC|apply AD|refine AI ?_ GE103.out)|exact HB.out)⟩⟩
        case round=>
          clear H'
          try clear c1
          try clear p2
          try clear c4
          try clear c4b0
          try clear c6
          try clear c6b0
          try clear c9
          try clear hcz10_0
          try clear hcz10_1
          try clear hcz5_0
          try clear hcz5_1
          try clear hcz7_0
          try clear hcz7_1
          try clear hcz8_0
          try clear hcz8_1
          try clear hfz10_0
          try clear hfz10_1
          try clear hfz5_0
          try clear hfz5_1
          try clear hfz7_0
          try clear hfz7_1
          try clear hfz8_0
          try clear hfz8_1
          try clear p2
          obtain ⟨x24_2,rfl,HA,HK2,BK103,HB⟩:=hrel
          cases gk with
          |zero=>exact absurd HA.out (by simp [AN.l0])
          | succ k2 =>
            have H:=HA.out
            clear HA
            simp only [AN.l0] at H
            by_cases c11:x24_2<(l0_1.length:Int)
            · rw [if_pos c11] at H
              have c11b0:decide (x24_2<(l0_1.length:Int))=true:=decide_eq_true c11
              clear c11
              by_cases c12:0≤x24_2
              · rw [if_pos c12] at H
                have c12b0:decide (0≤x24_2)=true:=decide_eq_true c12
                clear c12
                by_cases c13:x24_2<(l0_1.length:Int)
                · rw [if_pos c13] at H
                  have c13b0:decide (x24_2<(l0_1.length:Int))=true:=decide_eq_true c13
                  clear c13
                  have HC14:=yA H
                  clear H
                  have p104:0≤(x24_2:Int):=yD
                  have q104:x24_2<(l0_1.length:Int):=yD
                  obtain ⟨ad104,A104_3,c104_3,e104,hx104_0,hx104_1,hx104_2,hx104_3,hl104_3,hi104_3⟩:=C9 HR0_1.out x24_2 p104 q104
                  cases e104
                  replace hx104_0:=yC HB.out hx104_0
                  replace hx104_1:=yC HB.out hx104_1
                  replace hx104_2:=yC HB.out hx104_2
                  replace hx104_3:=yC HB.out hx104_3
                  have HR104_3:=yA hi104_3
                  have HC104_3:=yA hl104_3
                  clear hi104_3 hl104_3
                  replace p104:=eq_true p104
                  replace q104:=eq_true q104
                  go_upto_region 6 with (first|((with_reducible refine Ar (N:=4) rfl ?_); (try (refine BI (by rfl) ?_; dsimp only)); refine Ap ?hg (N:=4) ?hd (cs:= #[.string (⟨#[]⟩:ByteArray),.int .i64 0,.int .i64 0,.slice none 0 0]) (t:=49) ?hr ?_; (case hd=>rfl); (case hg=>rfl); (case hr=>first|(go_simp; done)|(go_simp; rfl)); intro gb105 hg w15 hbox hb; have n0_:=yA (AP (g:=gb103) (o:= .cells #[.int .i64 A8,.slice (some ad104) l0_1.length c0_1] 33 (0,0)) (by (with_reducible repeat (first|refine AG ?_ _|refine AH ?_|refine AF ?_ _)); exact BK103.out) hb); have n1_:=yA (AO (by repeat (first|(with_reducible first|exact HB.out|apply AE|apply AC|apply AD|refine AI ?_ GE103.out)|exact HB.out)) hb); have n2_:=yA (hbox); have n3_:=yA ((by rw [hg]; exact (AT (by repeat (first|(with_reducible first|exact HB.out|apply AE|apply AC|apply AD|refine AI ?_ GE103.out)|exact HB.out))):w.heap.size≤gb105)); have n4_:=yA ((by rw [hg]; exact (AT (by repeat (first|(with_reducible first|exact HB.out|apply AE|apply AC|apply AD|refine AI ?_ GE103.out)|exact HB.out))):w.heap.size≤gb105)); have n5_:=yA ((by rw [hg]; exact Nat.ne_of_lt (B0 (g:=gb103) (o:= .cells #[.int .i64 A8,.slice (some ad104) l0_1.length c0_1] 33 (0,0)) (by (with_reducible repeat (first|refine AG ?_ _|refine AH ?_|refine AF ?_ _)); exact BK103.out)):gb103≠gb105)); have n6_:=yA ((by rw [hg]; exact Nat.ne_of_gt (B0 (g:=gb103) (o:= .cells #[.int .i64 A8,.slice (some ad104) l0_1.length c0_1] 33 (0,0)) (by (with_reducible repeat (first|refine AG ?_ _|refine AH ?_|refine AF ?_ _)); exact BK103.out)):gb105≠gb103)); clear BK103; clear HB; have BK103:=n0_; have HB:=n1_; have BK105:=n2_; have GW105:=n3_; have GE105:=n4_; have NB103_105:=n5_; have NB105_103:=n6_; clear n0_ n1_ n2_ n3_ n4_ n5_ n6_; clear hb hbox hg; have hnb16:=NB105_103.out; have hnc16:=NB103_105.out; have hcz17_0:w15.cell? ⟨gb105,0,none⟩=some (.string (⟨#[]⟩:ByteArray)):=(AK BK105.out 0).trans rfl; have hcz17_1:w15.cell? ⟨gb105,1,none⟩=some (.int .i64 0):=(AK BK105.out 1).trans rfl; have hcz17_2:w15.cell? ⟨gb105,2,none⟩=some (.int .i64 0):=(AK BK105.out 2).trans rfl; have hcz17_3:w15.cell? ⟨gb105,3,none⟩=some (.slice none 0 0):=(AK BK105.out 3).trans rfl; have hfz17_0:=AJ BK105.out 0; have hfz17_1:=AJ BK105.out 1; have hfz17_2:=AJ BK105.out 2; have hfz17_3:=AJ BK105.out 3))
                  (try simp only [Act.put,List.setIfInBounds_toArray,List.set_cons_zero,List.set_cons_succ])
                  go_cut [52] (fun v52 wc=>∃(kq:Nat) (x52_13:Bool),v52= .bool x52_13∧Aside0 (AN.j2 kq x24_2 l0_1 (l0_1.length:Int) x24_2 x52_13 A8 l0_1 ((AM l0_1 x24_2).f0) ((AM l0_1 x24_2).f1) ((AM l0_1 x24_2).f2) ((AM l0_1 x24_2).f3)=some r)∧Aside0 (kq≤k2)∧Aside0 (wc.heap[gb103]? =some (.cells #[.int .i64 A8,(.slice (some ad104) l0_1.length c0_1)] 33 (0,0)))∧Aside0 (wc.heap[gb105]? =some (.cells #[.string ((AM l0_1 x24_2).f0),.int .i64 ((AM l0_1 x24_2).f1),.int .i64 ((AM l0_1 x24_2).f2),(.slice A104_3 ((AM l0_1 x24_2).f3).length c104_3)] 49 (0,0)))∧Aside0 (Below w.heap.size w wc))
                  case first=>
                    have H:=HC14.out
                    clear HC14
                    replace H:=Option.bind_eq_some_iff.mp H
                    obtain ⟨t106,A180,H⟩:=H
                    replace H:(if t106=true then (if ((AM l0_1 x24_2).f1)<1 then (AN.j2 k2 x24_2 l0_1 (l0_1.length:Int) x24_2 true A8 l0_1 ((AM l0_1 x24_2).f0) ((AM l0_1 x24_2).f1) ((AM l0_1 x24_2).f2) ((AM l0_1 x24_2).f3)) else (if ((AM l0_1 x24_2).f1)>10000 then (AN.j2 k2 x24_2 l0_1 (l0_1.length:Int) x24_2 true A8 l0_1 ((AM l0_1 x24_2).f0) ((AM l0_1 x24_2).f1) ((AM l0_1 x24_2).f2) ((AM l0_1 x24_2).f3)) else (if ((AM l0_1 x24_2).f2)<0 then (AN.j2 k2 x24_2 l0_1 (l0_1.length:Int) x24_2 true A8 l0_1 ((AM l0_1 x24_2).f0) ((AM l0_1 x24_2).f1) ((AM l0_1 x24_2).f2) ((AM l0_1 x24_2).f3)) else (AN.j2 k2 x24_2 l0_1 (l0_1.length:Int) x24_2 (decide (((AM l0_1 x24_2).f2)>1000000)) A8 l0_1 ((AM l0_1 x24_2).f0) ((AM l0_1 x24_2).f1) ((AM l0_1 x24_2).f2) ((AM l0_1 x24_2).f3))))) else (AN.j2 k2 x24_2 l0_1 (l0_1.length:Int) x24_2 true A8 l0_1 ((AM l0_1 x24_2).f0) ((AM l0_1 x24_2).f1) ((AM l0_1 x24_2).f2) ((AM l0_1 x24_2).f3)))=some r:=H
                    have A18:=yA A180
                    clear A180
                    by_cases c19:t106=true
                    · subst c19
                      have H1:(if ((AM l0_1 x24_2).f1)<1 then (AN.j2 k2 x24_2 l0_1 (l0_1.length:Int) x24_2 true A8 l0_1 ((AM l0_1 x24_2).f0) ((AM l0_1 x24_2).f1) ((AM l0_1 x24_2).f2) ((AM l0_1 x24_2).f3)) else (if ((AM l0_1 x24_2).f1)>10000 then (AN.j2 k2 x24_2 l0_1 (l0_1.length:Int) x24_2 true A8 l0_1 ((AM l0_1 x24_2).f0) ((AM l0_1 x24_2).f1) ((AM l0_1 x24_2).f2) ((AM l0_1 x24_2).f3)) else (if ((AM l0_1 x24_2).f2)<0 then (AN.j2 k2 x24_2 l0_1 (l0_1.length:Int) x24_2 true A8 l0_1 ((AM l0_1 x24_2).f0) ((AM l0_1 x24_2).f1) ((AM l0_1 x24_2).f2) ((AM l0_1 x24_2).f3)) else (AN.j2 k2 x24_2 l0_1 (l0_1.length:Int) x24_2 (decide (((AM l0_1 x24_2).f2)>1000000)) A8 l0_1 ((AM l0_1 x24_2).f0) ((AM l0_1 x24_2).f1) ((AM l0_1 x24_2).f2) ((AM l0_1 x24_2).f3)))))=some r:=by rw [if_pos rfl] at H; exact H
                      clear H
                      have H:=H1
                      clear H1
                      by_cases c20:((AM l0_1 x24_2).f1)<1
                      · rw [if_pos c20] at H
                        have c20b0:decide (((AM l0_1 x24_2).f1)<1)=true:=decide_eq_true c20
                        clear c20
                        (first|rw [c20b0]|(simp only [AR,AS]; rw [c20b0])|skip)
                        have H':=yA H
                        clear H
                        have hnb21:=NB105_103.out
                        have hnc21:=NB103_105.out
                        have hcz22_0:w15.cell? ⟨gb105,0,none⟩=some (.string (⟨#[]⟩:ByteArray)):=(AK BK105.out 0).trans rfl
                        have hcz22_1:w15.cell? ⟨gb105,1,none⟩=some (.int .i64 0):=(AK BK105.out 1).trans rfl
                        have hcz22_2:w15.cell? ⟨gb105,2,none⟩=some (.int .i64 0):=(AK BK105.out 2).trans rfl
                        have hcz22_3:w15.cell? ⟨gb105,3,none⟩=some (.slice none 0 0):=(AK BK105.out 3).trans rfl
                        have hfz22_0:=AJ BK105.out 0
                        have hfz22_1:=AJ BK105.out 1
                        have hfz22_2:=AJ BK105.out 2
                        have hfz22_3:=AJ BK105.out 3
                        go_wp2_with (first|((with_reducible refine Ah (f:=29) rfl ?_); refine BB (some 31) rfl rfl Tryd.func29 zE rfl #[.string ((AM l0_1 x24_2).f0)] rfl zD ?_; (with_reducible refine (BN.calls ((AM l0_1 x24_2).f0) true _ A18.out).mono ?_); rintro e w' ⟨rfl,⟨nd,rfl⟩⟩; refine ⟨_,rfl,?_⟩))
                        go_meet
                        case rel=>exact ⟨_,(true),zG,H',⟨by have:=HJ1.out; have:=HK2.out; first|omega|exact Nat.le_refl _⟩,⟨by (with_reducible repeat (first|refine AG ?_ _|refine AH ?_|refine AF ?_ _)); refine Aa ?_ NB103_105.out _; (with_reducible repeat (first|refine AG ?_ _|refine AH ?_|refine AF ?_ _)); refine Aa ?_ NB103_105.out _; (with_reducible repeat (first|refine AG ?_ _|refine AH ?_|refine AF ?_ _)); refine Aa ?_ NB103_105.out _; (with_reducible repeat (first|refine AG ?_ _|refine AH ?_|refine AF ?_ _)); refine Aa ?_ NB103_105.out _; (with_reducible repeat (first|refine AG ?_ _|refine AH ?_|refine AF ?_ _)); exact BK103.out⟩,⟨by (with_reducible repeat (first|refine AG ?_ _|refine AH ?_|refine AF ?_ _)); refine Am (cs:= #[.string ((AM l0_1 x24_2).f0),.int .i64 ((AM l0_1 x24_2).f1),.int .i64 ((AM l0_1 x24_2).f2),.slice none 0 0]) ?_ 3 _ rfl; (with_reducible repeat (first|refine AG ?_ _|refine AH ?_|refine AF ?_ _)); refine Am (cs:= #[.string ((AM l0_1 x24_2).f0),.int .i64 ((AM l0_1 x24_2).f1),.int .i64 0,.slice none 0 0]) ?_ 2 _ rfl; (with_reducible repeat (first|refine AG ?_ _|refine AH ?_|refine AF ?_ _)); refine Am (cs:= #[.string ((AM l0_1 x24_2).f0),.int .i64 0,.int .i64 0,.slice none 0 0]) ?_ 1 _ rfl; (with_reducible repeat (first|refine AG ?_ _|refine AH ?_|refine AF ?_ _)); refine Am (cs:= #[.string (⟨#[]⟩:ByteArray),.int .i64 0,.int .i64 0,.slice none 0 0]) ?_ 0 _ rfl; (with_reducible repeat (first|refine AG ?_ _|refine AH ?_|refine AF ?_ _)); exact BK105.out⟩,⟨by repeat (first|(with_reducible first|exact HB.out|apply AE|apply AC|apply AD|refine AI ?_ GE103.out|refine AI ?_ GE105.out)|exact HB.out)⟩⟩
                      · rw [if_neg c20] at H
                        have c20b0:decide (((AM l0_1 x24_2).f1)<1)=false:=decide_eq_false c20
                        clear c20
                        (first|rw [c20b0]|(simp only [AR,AS]; rw [c20b0])|skip)
                        by_cases c23:((AM l0_1 x24_2).f1)>10000
                        · rw [if_pos c23] at H
                          have c23b0:decide (10000<((AM l0_1 x24_2).f1))=true:=decide_eq_true c23
                          clear c23
                          have H':=yA H
                          clear H
                          have hnb24:=NB105_103.out
                          have hnc24:=NB103_105.out
                          have hcz25_0:w15.cell? ⟨gb105,0,none⟩=some (.string (⟨#[]⟩:ByteArray)):=(AK BK105.out 0).trans rfl
                          have hcz25_1:w15.cell? ⟨gb105,1,none⟩=some (.int .i64 0):=(AK BK105.out 1).trans rfl
                          have hcz25_2:w15.cell? ⟨gb105,2,none⟩=some (.int .i64 0):=(AK BK105.out 2).trans rfl
                          have hcz25_3:w15.cell? ⟨gb105,3,none⟩=some (.slice none 0 0):=(AK BK105.out 3).trans rfl
                          have hfz25_0:=AJ BK105.out 0
                          have hfz25_1:=AJ BK105.out 1
                          have hfz25_2:=AJ BK105.out 2
                          have hfz25_3:=AJ BK105.out 3
                          go_wp2_with (first|((with_reducible refine Ah (f:=29) rfl ?_); refine BB (some 31) rfl rfl Tryd.func29 zE rfl #[.string ((AM l0_1 x24_2).f0)] rfl zD ?_; (with_reducible refine (BN.calls ((AM l0_1 x24_2).f0) true _ A18.out).mono ?_); rintro e w' ⟨rfl,⟨nd,rfl⟩⟩; refine ⟨_,rfl,?_⟩))
                          go_meet
                          case rel=>exact ⟨_,(true),zG,H',⟨by have:=HJ1.out; have:=HK2.out; first|omega|exact Nat.le_refl _⟩,⟨by (with_reducible repeat (first|refine AG ?_ _|refine AH ?_|refine AF ?_ _)); refine Aa ?_ NB103_105.out _; (with_reducible repeat (first|refine AG ?_ _|refine AH ?_|refine AF ?_ _)); refine Aa ?_ NB103_105.out _; (with_reducible repeat (first|refine AG ?_ _|refine AH ?_|refine AF ?_ _)); refine Aa ?_ NB103_105.out _; (with_reducible repeat (first|refine AG ?_ _|refine AH ?_|refine AF ?_ _)); refine Aa ?_ NB103_105.out _; (with_reducible repeat (first|refine AG ?_ _|refine AH ?_|refine AF ?_ _)); exact BK103.out⟩,⟨by (with_reducible repeat (first|refine AG ?_ _|refine AH ?_|refine AF ?_ _)); refine Am (cs:= #[.string ((AM l0_1 x24_2).f0),.int .i64 ((AM l0_1 x24_2).f1),.int .i64 ((AM l0_1 x24_2).f2),.slice none 0 0]) ?_ 3 _ rfl; (with_reducible repeat (first|refine AG ?_ _|refine AH ?_|refine AF ?_ _)); refine Am (cs:= #[.string ((AM l0_1 x24_2).f0),.int .i64 ((AM l0_1 x24_2).f1),.int .i64 0,.slice none 0 0]) ?_ 2 _ rfl; (with_reducible repeat (first|refine AG ?_ _|refine AH ?_|refine AF ?_ _)); refine Am (cs:= #[.string ((AM l0_1 x24_2).f0),.int .i64 0,.int .i64 0,.slice none 0 0]) ?_ 1 _ rfl; (with_reducible repeat (first|refine AG ?_ _|refine AH ?_|refine AF ?_ _)); refine Am (cs:= #[.string (⟨#[]⟩:ByteArray),.int .i64 0,.int .i64 0,.slice none 0 0]) ?_ 0 _ rfl; (with_reducible repeat (first|refine AG ?_ _|refine AH ?_|refine AF ?_ _)); exact BK105.out⟩,⟨by repeat (first|(with_reducible first|exact HB.out|apply AE|apply AC|apply AD|refine AI ?_ GE103.out|refine AI ?_ GE105.out)|exact HB.out)⟩⟩
                        · rw [if_neg c23] at H
                          have c23b0:decide (10000<((AM l0_1 x24_2).f1))=false:=decide_eq_false c23
                          clear c23
                          by_cases c26:((AM l0_1 x24_2).f2)<0
                          · rw [if_pos c26] at H
                            have c26b0:decide (((AM l0_1 x24_2).f2)<0)=true:=decide_eq_true c26
                            clear c26
                            have H':=yA H
                            clear H
                            have hnb27:=NB105_103.out
                            have hnc27:=NB103_105.out
                            have hcz28_0:w15.cell? ⟨gb105,0,none⟩=some (.string (⟨#[]⟩:ByteArray)):=(AK BK105.out 0).trans rfl
                            have hcz28_1:w15.cell? ⟨gb105,1,none⟩=some (.int .i64 0):=(AK BK105.out 1).trans rfl
                            have hcz28_2:w15.cell? ⟨gb105,2,none⟩=some (.int .i64 0):=(AK BK105.out 2).trans rfl
                            have hcz28_3:w15.cell? ⟨gb105,3,none⟩=some (.slice none 0 0):=(AK BK105.out 3).trans rfl
                            have hfz28_0:=AJ BK105.out 0
                            have hfz28_1:=AJ BK105.out 1
                            have hfz28_2:=AJ BK105.out 2
                            have hfz28_3:=AJ BK105.out 3
                            go_wp2_with (first|((with_reducible refine Ah (f:=29) rfl ?_); refine BB (some 31) rfl rfl Tryd.func29 zE rfl #[.string ((AM l0_1 x24_2).f0)] rfl zD ?_; (with_reducible refine (BN.calls ((AM l0_1 x24_2).f0) true _ A18.out).mono ?_); rintro e w' ⟨rfl,⟨nd,rfl⟩⟩; refine ⟨_,rfl,?_⟩))
                            go_meet
                            case rel=>exact ⟨_,(true),zG,H',⟨by have:=HJ1.out; have:=HK2.out; first|omega|exact Nat.le_refl _⟩,⟨by (with_reducible repeat (first|refine AG ?_ _|refine AH ?_|refine AF ?_ _)); refine Aa ?_ NB103_105.out _; (with_reducible repeat (first|refine AG ?_ _|refine AH ?_|refine AF ?_ _)); refine Aa ?_ NB103_105.out _; (with_reducible repeat (first|refine AG ?_ _|refine AH ?_|refine AF ?_ _)); refine Aa ?_ NB103_105.out _; (with_reducible repeat (first|refine AG ?_ _|refine AH ?_|refine AF ?_ _)); refine Aa ?_ NB103_105.out _; (with_reducible repeat (first|refine AG ?_ _|refine AH ?_|refine AF ?_ _)); exact BK103.out⟩,⟨by (with_reducible repeat (first|refine AG ?_ _|refine AH ?_|refine AF ?_ _)); refine Am (cs:= #[.string ((AM l0_1 x24_2).f0),.int .i64 ((AM l0_1 x24_2).f1),.int .i64 ((AM l0_1 x24_2).f2),.slice none 0 0]) ?_ 3 _ rfl; (with_reducible repeat (first|refine AG ?_ _|refine AH ?_|refine AF ?_ _)); refine Am (cs:= #[.string ((AM l0_1 x24_2).f0),.int .i64 ((AM l0_1 x24_2).f1),.int .i64 0,.slice none 0 0]) ?_ 2 _ rfl; (with_reducible repeat (first|refine AG ?_ _|refine AH ?_|refine AF ?_ _)); refine Am (cs:= #[.string ((AM l0_1 x24_2).f0),.int .i64 0,.int .i64 0,.slice none 0 0]) ?_ 1 _ rfl; (with_reducible repeat (first|refine AG ?_ _|refine AH ?_|refine AF ?_ _)); refine Am (cs:= #[.string (⟨#[]⟩:ByteArray),.int .i64 0,.int .i64 0,.slice none 0 0]) ?_ 0 _ rfl; (with_reducible repeat (first|refine AG ?_ _|refine AH ?_|refine AF ?_ _)); exact BK105.out⟩,⟨by repeat (first|(with_reducible first|exact HB.out|apply AE|apply AC|apply AD|refine AI ?_ GE103.out|refine AI ?_ GE105.out)|exact HB.out)⟩⟩
                          · rw [if_neg c26] at H
                            have c26b0:decide (((AM l0_1 x24_2).f2)<0)=false:=decide_eq_false c26
                            clear c26
                            have H':=yA H
                            clear H
                            have hnb29:=NB105_103.out
                            have hnc29:=NB103_105.out
                            have hcz30_0:w15.cell? ⟨gb105,0,none⟩=some (.string (⟨#[]⟩:ByteArray)):=(AK BK105.out 0).trans rfl
                            have hcz30_1:w15.cell? ⟨gb105,1,none⟩=some (.int .i64 0):=(AK BK105.out 1).trans rfl
                            have hcz30_2:w15.cell? ⟨gb105,2,none⟩=some (.int .i64 0):=(AK BK105.out 2).trans rfl
                            have hcz30_3:w15.cell? ⟨gb105,3,none⟩=some (.slice none 0 0):=(AK BK105.out 3).trans rfl
                            have hfz30_0:=AJ BK105.out 0
                            have hfz30_1:=AJ BK105.out 1
                            have hfz30_2:=AJ BK105.out 2
                            have hfz30_3:=AJ BK105.out 3
                            go_wp2_with (first|((with_reducible refine Ah (f:=29) rfl ?_); refine BB (some 31) rfl rfl Tryd.func29 zE rfl #[.string ((AM l0_1 x24_2).f0)] rfl zD ?_; (with_reducible refine (BN.calls ((AM l0_1 x24_2).f0) true _ A18.out).mono ?_); rintro e w' ⟨rfl,⟨nd,rfl⟩⟩; refine ⟨_,rfl,?_⟩))
                            go_meet
                            case rel=>exact ⟨_,(decide (((AM l0_1 x24_2).f2)>1000000)),zG,H',⟨by have:=HJ1.out; have:=HK2.out; first|omega|exact Nat.le_refl _⟩,⟨by (with_reducible repeat (first|refine AG ?_ _|refine AH ?_|refine AF ?_ _)); refine Aa ?_ NB103_105.out _; (with_reducible repeat (first|refine AG ?_ _|refine AH ?_|refine AF ?_ _)); refine Aa ?_ NB103_105.out _; (with_reducible repeat (first|refine AG ?_ _|refine AH ?_|refine AF ?_ _)); refine Aa ?_ NB103_105.out _; (with_reducible repeat (first|refine AG ?_ _|refine AH ?_|refine AF ?_ _)); refine Aa ?_ NB103_105.out _; (with_reducible repeat (first|refine AG ?_ _|refine AH ?_|refine AF ?_ _)); exact BK103.out⟩,⟨by (with_reducible repeat (first|refine AG ?_ _|refine AH ?_|refine AF ?_ _)); refine Am (cs:= #[.string ((AM l0_1 x24_2).f0),.int .i64 ((AM l0_1 x24_2).f1),.int .i64 ((AM l0_1 x24_2).f2),.slice none 0 0]) ?_ 3 _ rfl; (with_reducible repeat (first|refine AG ?_ _|refine AH ?_|refine AF ?_ _)); refine Am (cs:= #[.string ((AM l0_1 x24_2).f0),.int .i64 ((AM l0_1 x24_2).f1),.int .i64 0,.slice none 0 0]) ?_ 2 _ rfl; (with_reducible repeat (first|refine AG ?_ _|refine AH ?_|refine AF ?_ _)); refine Am (cs:= #[.string ((AM l0_1 x24_2).f0),.int .i64 0,.int .i64 0,.slice none 0 0]) ?_ 1 _ rfl; (with_reducible repeat (first|refine AG ?_ _|refine AH ?_|refine AF ?_ _)); refine Am (cs:= #[.string (⟨#[]⟩:ByteArray),.int .i64 0,.int .i64 0,.slice none 0 0]) ?_ 0 _ rfl; (with_reducible repeat (first|refine AG ?_ _|refine AH ?_|refine AF ?_ _)); exact BK105.out⟩,⟨by repeat (first|(with_reducible first|exact HB.out|apply AE|apply AC|apply AD|refine AI ?_ GE103.out|refine AI ?_ GE105.out)|exact HB.out)⟩⟩
                    · replace c19:=Bool.eq_false_iff.mpr c19
                      subst c19
                      have H1:(AN.j2 k2 x24_2 l0_1 (l0_1.length:Int) x24_2 true A8 l0_1 ((AM l0_1 x24_2).f0) ((AM l0_1 x24_2).f1) ((AM l0_1 x24_2).f2) ((AM l0_1 x24_2).f3))=some r:=by rw [if_neg (show ¬(false=true) by decide)] at H; exact H
                      clear H
                      have H:=H1
                      clear H1
                      have H':=yA H
                      clear H
                      have hnb31:=NB105_103.out
                      have hnc31:=NB103_105.out
                      have hcz32_0:w15.cell? ⟨gb105,0,none⟩=some (.string (⟨#[]⟩:ByteArray)):=(AK BK105.out 0).trans rfl
                      have hcz32_1:w15.cell? ⟨gb105,1,none⟩=some (.int .i64 0):=(AK BK105.out 1).trans rfl
                      have hcz32_2:w15.cell? ⟨gb105,2,none⟩=some (.int .i64 0):=(AK BK105.out 2).trans rfl
                      have hcz32_3:w15.cell? ⟨gb105,3,none⟩=some (.slice none 0 0):=(AK BK105.out 3).trans rfl
                      have hfz32_0:=AJ BK105.out 0
                      have hfz32_1:=AJ BK105.out 1
                      have hfz32_2:=AJ BK105.out 2
                      have hfz32_3:=AJ BK105.out 3
                      go_wp2_with (first|((with_reducible refine Ah (f:=29) rfl ?_); refine BB (some 31) rfl rfl Tryd.func29 zE rfl #[.string ((AM l0_1 x24_2).f0)] rfl zD ?_; (with_reducible refine (BN.calls ((AM l0_1 x24_2).f0) false _ A18.out).mono ?_); rintro e w' ⟨rfl,⟨nd,rfl⟩⟩; refine ⟨_,rfl,?_⟩))
                      go_meet
                      case rel=>exact ⟨_,(true),zG,H',⟨by have:=HJ1.out; have:=HK2.out; first|omega|exact Nat.le_refl _⟩,⟨by (with_reducible repeat (first|refine AG ?_ _|refine AH ?_|refine AF ?_ _)); refine Aa ?_ NB103_105.out _; (with_reducible repeat (first|refine AG ?_ _|refine AH ?_|refine AF ?_ _)); refine Aa ?_ NB103_105.out _; (with_reducible repeat (first|refine AG ?_ _|refine AH ?_|refine AF ?_ _)); refine Aa ?_ NB103_105.out _; (with_reducible repeat (first|refine AG ?_ _|refine AH ?_|refine AF ?_ _)); refine Aa ?_ NB103_105.out _; (with_reducible repeat (first|refine AG ?_ _|refine AH ?_|refine AF ?_ _)); exact BK103.out⟩,⟨by (with_reducible repeat (first|refine AG ?_ _|refine AH ?_|refine AF ?_ _)); refine Am (cs:= #[.string ((AM l0_1 x24_2).f0),.int .i64 ((AM l0_1 x24_2).f1),.int .i64 ((AM l0_1 x24_2).f2),.slice none 0 0]) ?_ 3 _ rfl; (with_reducible repeat (first|refine AG ?_ _|refine AH ?_|refine AF ?_ _)); refine Am (cs:= #[.string ((AM l0_1 x24_2).f0),.int .i64 ((AM l0_1 x24_2).f1),.int .i64 0,.slice none 0 0]) ?_ 2 _ rfl; (with_reducible repeat (first|refine AG ?_ _|refine AH ?_|refine AF ?_ _)); refine Am (cs:= #[.string ((AM l0_1 x24_2).f0),.int .i64 0,.int .i64 0,.slice none 0 0]) ?_ 1 _ rfl; (with_reducible repeat (first|refine AG ?_ _|refine AH ?_|refine AF ?_ _)); refine Am (cs:= #[.string (⟨#[]⟩:ByteArray),.int .i64 0,.int .i64 0,.slice none 0 0]) ?_ 0 _ rfl; (with_reducible repeat (first|refine AG ?_ _|refine AH ?_|refine AF ?_ _)); exact BK105.out⟩,⟨by repeat (first|(with_reducible first|exact HB.out|apply AE|apply AC|apply AD|refine AI ?_ GE103.out|refine AI ?_ GE105.out)|exact HB.out)⟩⟩
                  case rest =>
                    clear HC14
                    try clear c1
                    try clear p1
                    try clear q1
                    try clear hx1
                    try clear c2
                    try clear p2
                    try clear c3
                    try clear c4
                    try clear c4b0
                    try clear c6
                    try clear c6b0
                    try clear c9
                    try clear c10
                    try clear p10
                    try clear q10
                    try clear hx10
                    try clear c11
                    try clear c11b0
                    try clear c12
                    try clear c12b0
                    try clear c13
                    try clear c13b0
                    try clear c14
                    try clear c16
                    try clear c19
                    try clear c20
                    try clear c20b0
                    try clear c21
                    try clear c23
                    try clear c23b0
                    try clear c24
                    try clear c26
                    try clear c26b0
                    try clear c27
                    try clear c29
                    try clear c31
                    try clear hcz10_0
                    try clear hcz10_1
                    try clear hcz17_0
                    try clear hcz17_1
                    try clear hcz17_2
                    try clear hcz17_3
                    try clear hcz22_0
                    try clear hcz22_1
                    try clear hcz22_2
                    try clear hcz22_3
                    try clear hcz25_0
                    try clear hcz25_1
                    try clear hcz25_2
                    try clear hcz25_3
                    try clear hcz28_0
                    try clear hcz28_1
                    try clear hcz28_2
                    try clear hcz28_3
                    try clear hcz30_0
                    try clear hcz30_1
                    try clear hcz30_2
                    try clear hcz30_3
                    try clear hcz32_0
                    try clear hcz32_1
                    try clear hcz32_2
                    try clear hcz32_3
                    try clear hcz5_0
                    try clear hcz5_1
                    try clear hcz7_0
                    try clear hcz7_1
                    try clear hcz8_0
                    try clear hcz8_1
                    try clear hfz10_0
                    try clear hfz10_1
                    try clear hfz17_0
                    try clear hfz17_1
                    try clear hfz17_2
                    try clear hfz17_3
                    try clear hfz22_0
                    try clear hfz22_1
                    try clear hfz22_2
                    try clear hfz22_3
                    try clear hfz25_0
                    try clear hfz25_1
                    try clear hfz25_2
                    try clear hfz25_3
                    try clear hfz28_0
                    try clear hfz28_1
                    try clear hfz28_2
                    try clear hfz28_3
                    try clear hfz30_0
                    try clear hfz30_1
                    try clear hfz30_2
                    try clear hfz30_3
                    try clear hfz32_0
                    try clear hfz32_1
                    try clear hfz32_2
                    try clear hfz32_3
                    try clear hfz5_0
                    try clear hfz5_1
                    try clear hfz7_0
                    try clear hfz7_1
                    try clear hfz8_0
                    try clear hfz8_1
                    try clear hx104_0
                    try clear hx104_1
                    try clear hx104_2
                    try clear hx104_3
                    try clear p104
                    try clear p2
                    try clear q104
                    obtain ⟨kq,x52_13,rfl,HA,HJ13,BK103,BK105,HB⟩:=hcut
                    cases kq with
                    |zero=>exact absurd HA.out (by simp [AN.j2])
                    | succ kj13 =>
                      have H:=HA.out
                      clear HA
                      simp only [AN.j2] at H
                      by_cases c33:x52_13=true
                      · subst c33
                        have H1:(some false)=some r:=by rw [if_pos rfl] at H; exact H
                        clear H
                        have H:=H1
                        clear H1
                        obtain rfl:=Option.some.inj H
                        go_wp2
                        go_ret
                        exact ⟨by first|rfl|(simp [AZ,AY]<;>rfl)|(simp [*,AZ,AY]<;>rfl),by repeat (first|(with_reducible first|exact HB.out|apply AE|apply AC|apply AD|refine AI ?_ GE103.out|refine AI ?_ GE105.out)|exact HB.out)⟩
                      · replace c33 :=Bool.eq_false_iff.mpr c33
                        subst c33
                        have H1:(if 0≤x24_2 then (if x24_2≤(l0_1.length:Int) then ((Bt.f (l0_1.take (x24_2:Int).toNat) ((AM l0_1 x24_2).f0)).bind fun t111=>(if t111=true then (some false) else (AN.l1 kj13 x24_2 l0_1 (l0_1.length:Int) x24_2 ((AM l0_1 x24_2).f3) (((AM l0_1 x24_2).f3).length:Int) 0 A8 l0_1 ((AM l0_1 x24_2).f0) ((AM l0_1 x24_2).f1) ((AM l0_1 x24_2).f2) ((AM l0_1 x24_2).f3)))) else (none)) else (none))=some r:=by rw [if_neg (show ¬(false=true) by decide)] at H; exact H
                        clear H
                        have H:=H1
                        clear H1
                        by_cases c34:0≤x24_2
                        · rw [if_pos c34] at H
                          have c34b0:=eq_true c34
                          have c34b1:decide (0≤x24_2)=true:=decide_eq_true c34
                          clear c34
                          by_cases c35:x24_2≤(l0_1.length:Int)
                          · rw [if_pos c35] at H
                            have c35b0:=eq_true c35
                            have c35b1:decide (x24_2≤(l0_1.length:Int))=true:=decide_eq_true c35
                            clear c35
                            obtain ⟨y107,hy107⟩:∃y_:List (S49),y_=(l0_1.take (x24_2:Int).toNat):=⟨_,rfl⟩
                            replace H:((Bt.f y107 ((AM l0_1 x24_2).f0)).bind fun t111=>(if t111=true then (some false) else (AN.l1 kj13 x24_2 l0_1 (l0_1.length:Int) x24_2 ((AM l0_1 x24_2).f3) (((AM l0_1 x24_2).f3).length:Int) 0 A8 l0_1 ((AM l0_1 x24_2).f0) ((AM l0_1 x24_2).f1) ((AM l0_1 x24_2).f2) ((AM l0_1 x24_2).f3))))=some r:=by first|(rw [hy107]; with_reducible exact H)|(have H2_:=(Option.bind_some _ _).symm.trans H; rw [hy107]; with_reducible exact H2_)|(have H2_:=(Option.bind_some _ _).symm.trans H; with_reducible exact H2_)|with_reducible exact H|(rw [hy107]; exact H)|exact H
                            have Ny107:=yA hy107
                            clear hy107
                            replace H:=Option.bind_eq_some_iff.mp H
                            obtain ⟨t111,A360,H⟩:=H
                            replace H:(if t111=true then (some false) else (AN.l1 kj13 x24_2 l0_1 (l0_1.length:Int) x24_2 ((AM l0_1 x24_2).f3) (((AM l0_1 x24_2).f3).length:Int) 0 A8 l0_1 ((AM l0_1 x24_2).f0) ((AM l0_1 x24_2).f1) ((AM l0_1 x24_2).f2) ((AM l0_1 x24_2).f3)))=some r:=H
                            have A36:=yA A360
                            clear A360
                            by_cases c37:t111=true
                            · subst c37
                              have H1:(some false)=some r:=by rw [if_pos rfl] at H; exact H
                              clear H
                              have H:=H1
                              clear H1
                              obtain rfl:=Option.some.inj H
                              have hnb38:=NB103_105.out
                              have hnc38:=NB105_103.out
                              have hcz39_0:wc.cell? ⟨gb103,0,none⟩=some (.int .i64 A8):=(AK BK103.out 0).trans rfl
                              have hcz39_1:wc.cell? ⟨gb103,1,none⟩=some (.slice (some ad104) l0_1.length c0_1):=(AK BK103.out 1).trans rfl
                              have hfz39_0:=AJ BK103.out 0
                              have hfz39_1:=AJ BK103.out 1
                              have q40:(x24_2:Int)≤((l0_1.length:Int):Int):=yD
                              obtain ⟨i040,hi040,_,hsz40,_⟩:=info_parts info49
                              have hroom40:l0_1.length≤c0_1:=HC0_1.out
                              have hC40:Kd.C k49 _ (some ad104) l0_1.length l0_1:=HR0_1.out
                              have hcut40:=Fo (P:=Tryd.prog) 31 49 .i64 Tryd.underlying31 hi040 (some ad104) l0_1.length c0_1 x24_2 (yD) q40 hroom40
                              have hr40:=Kd.C_take (m:=(x24_2:Int).toNat) hC40 zI
                              have hy40:y107.length=(x24_2:Int).toNat:=(by rw [Ny107.out,List.length_take]; omega)
                              rw [←Ny107.out] at hr40
                              rw [←hy40] at hcut40
                              have HR110:=yA hr40
                              have HC110:=yA (show y107.length≤c0_1 from by omega)
                              clear hr40 hC40 hroom40 hi040 hsz40
                              have KY40:=yA hy40
                              clear hy40
                              replace q40:=eq_true q40
                              have hcz41_0:wc.cell? ⟨gb105,0,none⟩=some (.string ((AM l0_1 x24_2).f0)):=(AK BK105.out 0).trans rfl
                              have hcz41_1:wc.cell? ⟨gb105,1,none⟩=some (.int .i64 ((AM l0_1 x24_2).f1)):=(AK BK105.out 1).trans rfl
                              have hcz41_2:wc.cell? ⟨gb105,2,none⟩=some (.int .i64 ((AM l0_1 x24_2).f2)):=(AK BK105.out 2).trans rfl
                              have hcz41_3:wc.cell? ⟨gb105,3,none⟩=some (.slice A104_3 ((AM l0_1 x24_2).f3).length c104_3):=(AK BK105.out 3).trans rfl
                              have hfz41_0:=AJ BK105.out 0
                              have hfz41_1:=AJ BK105.out 1
                              have hfz41_2:=AJ BK105.out 2
                              have hfz41_3:=AJ BK105.out 3
                              go_wp2_with (first|((with_reducible refine Ah (f:=30) rfl ?_); refine BB (some 58) rfl rfl Tryd.func30 zE rfl #[.slice (some ad104) y107.length c0_1,.func (.func 31) #[] #[.pointer (some ⟨gb105,0,none⟩)]] rfl zD ?_; (with_reducible refine (Bt.calls _ _ y107 ((AM l0_1 x24_2).f0) true _ ?side1 ?side2 A36.out (by (with_reducible repeat (first|refine AG ?_ _|refine AH ?_|refine AF ?_ _)); exact BK105.out)).mono ?_); (case side1=>repeat (first|exact (Kd.C_below HR110.out HB.out)|(with_reducible refine Kd.C_alloc ?_ _)|(with_reducible refine Kd.C_drewN ?_ _)|(with_reducible refine Kd.C_drew ?_))); (case side2=>exact HC110.out); rintro e w42 ⟨rfl,hb⟩; refine ⟨_,rfl,?_⟩; have n0_:=yA (AP (g:=gb103) (o:= .cells #[.int .i64 A8,.slice (some ad104) l0_1.length c0_1] 33 (0,0)) (by (with_reducible repeat (first|refine AG ?_ _|refine AH ?_|refine AF ?_ _)); exact BK103.out) hb); have n1_:=yA (AP (g:=gb105) (o:= .cells #[.string ((AM l0_1 x24_2).f0),.int .i64 ((AM l0_1 x24_2).f1),.int .i64 ((AM l0_1 x24_2).f2),.slice A104_3 ((AM l0_1 x24_2).f3).length c104_3] 49 (0,0)) (by (with_reducible repeat (first|refine AG ?_ _|refine AH ?_|refine AF ?_ _)); exact BK105.out) hb); have n2_:=yA (AO (by repeat (first|(with_reducible first|exact HB.out|apply AE|apply AC|apply AD|refine AI ?_ GE103.out|refine AI ?_ GE105.out)|exact HB.out)) hb); clear BK103; clear BK105; clear HB; have BK103:=n0_; have BK105:=n1_; have HB:=n2_; clear n0_ n1_ n2_; (try clear hb); (try clear hb2); (try clear hk); (try clear hi)))
                              go_ret
                              exact ⟨by first|rfl|(simp [AZ,AY]<;>rfl)|(simp [*,AZ,AY]<;>rfl),by repeat (first|(with_reducible first|exact HB.out|apply AE|apply AC|apply AD|refine AI ?_ GE103.out|refine AI ?_ GE105.out)|exact HB.out)⟩
                            · replace c37 :=Bool.eq_false_iff.mpr c37
                              subst c37
                              have H1:(AN.l1 kj13 x24_2 l0_1 (l0_1.length:Int) x24_2 ((AM l0_1 x24_2).f3) (((AM l0_1 x24_2).f3).length:Int) 0 A8 l0_1 ((AM l0_1 x24_2).f0) ((AM l0_1 x24_2).f1) ((AM l0_1 x24_2).f2) ((AM l0_1 x24_2).f3))=some r:=by rw [if_neg (show ¬(false=true) by decide)] at H; exact H
                              clear H
                              have H:=H1
                              clear H1
                              have H':=yA H
                              clear H
                              have hnb43:=NB103_105.out
                              have hnc43:=NB105_103.out
                              have hcz44_0:wc.cell? ⟨gb103,0,none⟩=some (.int .i64 A8):=(AK BK103.out 0).trans rfl
                              have hcz44_1:wc.cell? ⟨gb103,1,none⟩=some (.slice (some ad104) l0_1.length c0_1):=(AK BK103.out 1).trans rfl
                              have hfz44_0:=AJ BK103.out 0
                              have hfz44_1:=AJ BK103.out 1
                              have q45:(x24_2:Int)≤((l0_1.length:Int):Int):=yD
                              obtain ⟨i045,hi045,_,hsz45,_⟩:=info_parts info49
                              have hroom45:l0_1.length≤c0_1:=HC0_1.out
                              have hC45:Kd.C k49 _ (some ad104) l0_1.length l0_1:=HR0_1.out
                              have hcut45:=Fo (P:=Tryd.prog) 31 49 .i64 Tryd.underlying31 hi045 (some ad104) l0_1.length c0_1 x24_2 (yD) q45 hroom45
                              have hr45:=Kd.C_take (m:=(x24_2:Int).toNat) hC45 zI
                              have hy45:y107.length=(x24_2:Int).toNat:=(by rw [Ny107.out,List.length_take]; omega)
                              rw [←Ny107.out] at hr45
                              rw [←hy45] at hcut45
                              have HR110:=yA hr45
                              have HC110:=yA (show y107.length≤c0_1 from by omega)
                              clear hr45 hC45 hroom45 hi045 hsz45
                              have KY45:=yA hy45
                              clear hy45
                              replace q45:=eq_true q45
                              have hcz46_0:wc.cell? ⟨gb105,0,none⟩=some (.string ((AM l0_1 x24_2).f0)):=(AK BK105.out 0).trans rfl
                              have hcz46_1:wc.cell? ⟨gb105,1,none⟩=some (.int .i64 ((AM l0_1 x24_2).f1)):=(AK BK105.out 1).trans rfl
                              have hcz46_2:wc.cell? ⟨gb105,2,none⟩=some (.int .i64 ((AM l0_1 x24_2).f2)):=(AK BK105.out 2).trans rfl
                              have hcz46_3:wc.cell? ⟨gb105,3,none⟩=some (.slice A104_3 ((AM l0_1 x24_2).f3).length c104_3):=(AK BK105.out 3).trans rfl
                              have hfz46_0:=AJ BK105.out 0
                              have hfz46_1:=AJ BK105.out 1
                              have hfz46_2:=AJ BK105.out 2
                              have hfz46_3:=AJ BK105.out 3
                              go_wp2_with (first|((with_reducible refine Ah (f:=30) rfl ?_); refine BB (some 58) rfl rfl Tryd.func30 zE rfl #[.slice (some ad104) y107.length c0_1,.func (.func 31) #[] #[.pointer (some ⟨gb105,0,none⟩)]] rfl zD ?_; (with_reducible refine (Bt.calls _ _ y107 ((AM l0_1 x24_2).f0) false _ ?side1 ?side2 A36.out (by (with_reducible repeat (first|refine AG ?_ _|refine AH ?_|refine AF ?_ _)); exact BK105.out)).mono ?_); (case side1=>repeat (first|exact (Kd.C_below HR110.out HB.out)|(with_reducible refine Kd.C_alloc ?_ _)|(with_reducible refine Kd.C_drewN ?_ _)|(with_reducible refine Kd.C_drew ?_))); (case side2=>exact HC110.out); rintro e w47 ⟨rfl,hb⟩; refine ⟨_,rfl,?_⟩; have n0_:=yA (AP (g:=gb103) (o:= .cells #[.int .i64 A8,.slice (some ad104) l0_1.length c0_1] 33 (0,0)) (by (with_reducible repeat (first|refine AG ?_ _|refine AH ?_|refine AF ?_ _)); exact BK103.out) hb); have n1_:=yA (AP (g:=gb105) (o:= .cells #[.string ((AM l0_1 x24_2).f0),.int .i64 ((AM l0_1 x24_2).f1),.int .i64 ((AM l0_1 x24_2).f2),.slice A104_3 ((AM l0_1 x24_2).f3).length c104_3] 49 (0,0)) (by (with_reducible repeat (first|refine AG ?_ _|refine AH ?_|refine AF ?_ _)); exact BK105.out) hb); have n2_:=yA (AO (by repeat (first|(with_reducible first|exact HB.out|apply AE|apply AC|apply AD|refine AI ?_ GE103.out|refine AI ?_ GE105.out)|exact HB.out)) hb); clear BK103; clear BK105; clear HB; have BK103:=n0_; have BK105:=n1_; have HB:=n2_; clear n0_ n1_ n2_; (try clear hb); (try clear hb2); (try clear hk); (try clear hi); have hcz48_0:w47.cell? ⟨gb105,0,none⟩=some (.string ((AM l0_1 x24_2).f0)):=(AK BK105.out 0).trans rfl; have hcz48_1:w47.cell? ⟨gb105,1,none⟩=some (.int .i64 ((AM l0_1 x24_2).f1)):=(AK BK105.out 1).trans rfl; have hcz48_2:w47.cell? ⟨gb105,2,none⟩=some (.int .i64 ((AM l0_1 x24_2).f2)):=(AK BK105.out 2).trans rfl; have hcz48_3:w47.cell? ⟨gb105,3,none⟩=some (.slice A104_3 ((AM l0_1 x24_2).f3).length c104_3):=(AK BK105.out 3).trans rfl; have hfz48_0:=AJ BK105.out 0; have hfz48_1:=AJ BK105.out 1; have hfz48_2:=AJ BK105.out 2; have hfz48_3:=AJ BK105.out 3))
                              go_loopg [62] kj13 (fun kq v62 w'=>∃(x62_4:Int),v62= .int .i64 x62_4∧Aside0 (AN.l1 kq x24_2 l0_1 (l0_1.length:Int) x24_2 ((AM l0_1 x24_2).f3) (((AM l0_1 x24_2).f3).length:Int) x62_4 A8 l0_1 ((AM l0_1 x24_2).f0) ((AM l0_1 x24_2).f1) ((AM l0_1 x24_2).f2) ((AM l0_1 x24_2).f3)=some r)∧Aside0 (kq≤kj13)∧Aside0 (w'.heap[gb103]? =some (.cells #[.int .i64 A8,(.slice (some ad104) l0_1.length c0_1)] 33 (0,0)))∧Aside0 (w'.heap[gb105]? =some (.cells #[.string ((AM l0_1 x24_2).f0),.int .i64 ((AM l0_1 x24_2).f1),.int .i64 ((AM l0_1 x24_2).f2),(.slice A104_3 ((AM l0_1 x24_2).f3).length c104_3)] 49 (0,0)))∧Aside0 (Below w.heap.size w w'))
                              case atStart=>exact ⟨(0),zG,H',⟨Nat.le_refl _⟩,⟨by (with_reducible repeat (first|refine AG ?_ _|refine AH ?_|refine AF ?_ _)); exact BK103.out⟩,⟨by (with_reducible repeat (first|refine AG ?_ _|refine AH ?_|refine AF ?_ _)); exact BK105.out⟩,⟨by repeat (first|(with_reducible first|exact HB.out|apply AE|apply AC|apply AD|refine AI ?_ GE103.out|refine AI ?_ GE105.out)|exact HB.out)⟩⟩
                              case round=>
                                clear H'
                                try clear c1
                                try clear p1
                                try clear q1
                                try clear hx1
                                try clear c2
                                try clear p2
                                try clear c3
                                try clear c4
                                try clear c4b0
                                try clear q4
                                try clear c6
                                try clear c6b0
                                try clear c9
                                try clear c10
                                try clear p10
                                try clear q10
                                try clear hx10
                                try clear c11
                                try clear c11b0
                                try clear c12
                                try clear c12b0
                                try clear c13
                                try clear c13b0
                                try clear c14
                                try clear c16
                                try clear c19
                                try clear c20
                                try clear c20b0
                                try clear c21
                                try clear c23
                                try clear c23b0
                                try clear c24
                                try clear c26
                                try clear c26b0
                                try clear c27
                                try clear c29
                                try clear c31
                                try clear c33
                                try clear c34
                                try clear c34b0
                                try clear c34b1
                                try clear c35
                                try clear c35b0
                                try clear c35b1
                                try clear c37
                                try clear c38
                                try clear q40
                                try clear c43
                                try clear q45
                                try clear hcz10_0
                                try clear hcz10_1
                                try clear hcz17_0
                                try clear hcz17_1
                                try clear hcz17_2
                                try clear hcz17_3
                                try clear hcz22_0
                                try clear hcz22_1
                                try clear hcz22_2
                                try clear hcz22_3
                                try clear hcz25_0
                                try clear hcz25_1
                                try clear hcz25_2
                                try clear hcz25_3
                                try clear hcz28_0
                                try clear hcz28_1
                                try clear hcz28_2
                                try clear hcz28_3
                                try clear hcz30_0
                                try clear hcz30_1
                                try clear hcz30_2
                                try clear hcz30_3
                                try clear hcz32_0
                                try clear hcz32_1
                                try clear hcz32_2
                                try clear hcz32_3
                                try clear hcz39_0
                                try clear hcz39_1
                                try clear hcz41_0
                                try clear hcz41_1
                                try clear hcz41_2
                                try clear hcz41_3
                                try clear hcz44_0
                                try clear hcz44_1
                                try clear hcz46_0
                                try clear hcz46_1
                                try clear hcz46_2
                                try clear hcz46_3
                                try clear hcz48_0
                                try clear hcz48_1
                                try clear hcz48_2
                                try clear hcz48_3
                                try clear hcz5_0
                                try clear hcz5_1
                                try clear hcz7_0
                                try clear hcz7_1
                                try clear hcz8_0
                                try clear hcz8_1
                                try clear hfz10_0
                                try clear hfz10_1
                                try clear hfz17_0
                                try clear hfz17_1
                                try clear hfz17_2
                                try clear hfz17_3
                                try clear hfz22_0
                                try clear hfz22_1
                                try clear hfz22_2
                                try clear hfz22_3
                                try clear hfz25_0
                                try clear hfz25_1
                                try clear hfz25_2
                                try clear hfz25_3
                                try clear hfz28_0
                                try clear hfz28_1
                                try clear hfz28_2
                                try clear hfz28_3
                                try clear hfz30_0
                                try clear hfz30_1
                                try clear hfz30_2
                                try clear hfz30_3
                                try clear hfz32_0
                                try clear hfz32_1
                                try clear hfz32_2
                                try clear hfz32_3
                                try clear hfz39_0
                                try clear hfz39_1
                                try clear hfz41_0
                                try clear hfz41_1
                                try clear hfz41_2
                                try clear hfz41_3
                                try clear hfz44_0
                                try clear hfz44_1
                                try clear hfz46_0
                                try clear hfz46_1
                                try clear hfz46_2
                                try clear hfz46_3
                                try clear hfz48_0
                                try clear hfz48_1
                                try clear hfz48_2
                                try clear hfz48_3
                                try clear hfz5_0
                                try clear hfz5_1
                                try clear hfz7_0
                                try clear hfz7_1
                                try clear hfz8_0
                                try clear hfz8_1
                                try clear hx104_0
                                try clear hx104_1
                                try clear hx104_2
                                try clear hx104_3
                                try clear p1
                                try clear p10
                                try clear p104
                                try clear p2
                                try clear q1
                                try clear q10
                                try clear q104
                                try clear q40
                                try clear q45
                                obtain ⟨x62_4,rfl,HA,HK4,BK103,BK105,HB⟩:=hrel
                                cases gk with
                                |zero=>exact absurd HA.out (by simp [AN.l1])
                                | succ k4 =>
                                  have H:=HA.out
                                  clear HA
                                  simp only [AN.l1] at H
                                  by_cases c49:x62_4<(((AM l0_1 x24_2).f3).length:Int)
                                  · rw [if_pos c49] at H
                                    have c49b0:decide (x62_4<(((AM l0_1 x24_2).f3).length:Int))=true:=decide_eq_true c49
                                    clear c49
                                    by_cases c50:0≤x62_4
                                    · rw [if_pos c50] at H
                                      have c50b0:decide (0≤x62_4)=true:=decide_eq_true c50
                                      clear c50
                                      by_cases c51:x62_4<(((AM l0_1 x24_2).f3).length:Int)
                                      · rw [if_pos c51] at H
                                        have c51b0:decide (x62_4<(((AM l0_1 x24_2).f3).length:Int))=true:=decide_eq_true c51
                                        clear c51
                                        by_cases c52:(rd ((AM l0_1 x24_2).f3) x62_4)<0
                                        · rw [if_pos c52] at H
                                          have c52b0:decide ((rd ((AM l0_1 x24_2).f3) x62_4)<0)=true:=decide_eq_true c52
                                          clear c52
                                          obtain rfl:=Option.some.inj H
                                          have p112:0≤(x62_4:Int):=yD
                                          have q112:x62_4<(((AM l0_1 x24_2).f3).length:Int):=yD
                                          obtain ⟨ad112,e112,hx112_0⟩:=Kd.at_int HR104_3.out x62_4 p112 q112
                                          cases e112
                                          replace hx112_0:=yC HB.out hx112_0
                                          replace p112:=eq_true p112
                                          replace q112:=eq_true q112
                                          go_wp2
                                          go_ret
                                          exact ⟨by first|rfl|(simp [AZ,AY]<;>rfl)|(simp [*,AZ,AY]<;>rfl),by repeat (first|(with_reducible first|exact HB.out|apply AE|apply AC|apply AD|refine AI ?_ GE103.out|refine AI ?_ GE105.out)|exact HB.out)⟩
                                        · rw [if_neg c52] at H
                                          have c52b0:decide ((rd ((AM l0_1 x24_2).f3) x62_4)<0)=false:=decide_eq_false c52
                                          clear c52
                                          by_cases c53:(rd ((AM l0_1 x24_2).f3) x62_4)≥x24_2
                                          · rw [if_pos c53] at H
                                            have c53b0:decide (x24_2≤(rd ((AM l0_1 x24_2).f3) x62_4))=true:=decide_eq_true c53
                                            clear c53
                                            obtain rfl:=Option.some.inj H
                                            have p112:0≤(x62_4:Int):=yD
                                            have q112:x62_4<(((AM l0_1 x24_2).f3).length:Int):=yD
                                            obtain ⟨ad112,e112,hx112_0⟩:=Kd.at_int HR104_3.out x62_4 p112 q112
                                            cases e112
                                            replace hx112_0:=yC HB.out hx112_0
                                            replace p112:=eq_true p112
                                            replace q112:=eq_true q112
                                            go_wp2
                                            go_ret
                                            exact ⟨by first|rfl|(simp [AZ,AY]<;>rfl)|(simp [*,AZ,AY]<;>rfl),by repeat (first|(with_reducible first|exact HB.out|apply AE|apply AC|apply AD|refine AI ?_ GE103.out|refine AI ?_ GE105.out)|exact HB.out)⟩
                                          · rw [if_neg c53] at H
                                            have c53b0:decide (x24_2≤(rd ((AM l0_1 x24_2).f3) x62_4))=false:=decide_eq_false c53
                                            clear c53
                                            by_cases c54:x62_4>0
                                            · rw [if_pos c54] at H
                                              have c54b0:decide (0<x62_4)=true:=decide_eq_true c54
                                              clear c54
                                              obtain ⟨ji55,hji55⟩:∃j_:Int,(wrap64 (x62_4-1))=j_:=⟨_,rfl⟩
                                              replace H:(if 0≤(ji55) then (if (ji55)<(((AM l0_1 x24_2).f3).length:Int) then (if (rd ((AM l0_1 x24_2).f3) (ji55))≥(rd ((AM l0_1 x24_2).f3) x62_4) then (some false) else (AN.l1 k4 x24_2 l0_1 (l0_1.length:Int) x24_2 ((AM l0_1 x24_2).f3) (((AM l0_1 x24_2).f3).length:Int) (wrap64 (x62_4+1)) A8 l0_1 ((AM l0_1 x24_2).f0) ((AM l0_1 x24_2).f1) ((AM l0_1 x24_2).f2) ((AM l0_1 x24_2).f3))) else (none)) else (none))=some r:=by first|(rw [hji55] at H; exact H)|(simp only [hji55] at H ⊢; exact H)
                                              have hji55w:(IntKind.i64.wrap (x62_4-1))=ji55:=(AR _).trans hji55
                                              by_cases c56:0≤(ji55)
                                              · rw [if_pos c56] at H
                                                have c56b0:decide (0≤(ji55))=true:=decide_eq_true c56
                                                clear c56
                                                by_cases c57:(ji55)<(((AM l0_1 x24_2).f3).length:Int)
                                                · rw [if_pos c57] at H
                                                  have c57b0:decide ((ji55)<(((AM l0_1 x24_2).f3).length:Int))=true:=decide_eq_true c57
                                                  clear c57
                                                  by_cases c58:(rd ((AM l0_1 x24_2).f3) (ji55))≥(rd ((AM l0_1 x24_2).f3) x62_4)
                                                  · rw [if_pos c58] at H
                                                    have c58b0:decide ((rd ((AM l0_1 x24_2).f3) x62_4)≤(rd ((AM l0_1 x24_2).f3) (ji55)))=true:=decide_eq_true c58
                                                    clear c58
                                                    obtain rfl:=Option.some.inj H
                                                    have p112:0≤(x62_4:Int):=yD
                                                    have q112:x62_4<(((AM l0_1 x24_2).f3).length:Int):=yD
                                                    obtain ⟨ad112,e112,hx112_0⟩:=Kd.at_int HR104_3.out x62_4 p112 q112
                                                    cases e112
                                                    replace hx112_0:=yC HB.out hx112_0
                                                    replace p112:=eq_true p112
                                                    replace q112:=eq_true q112
                                                    have hnb59:=NB105_103.out
                                                    have hnc59:=NB103_105.out
                                                    have hcz60_0:wr.cell? ⟨gb105,0,none⟩=some (.string ((AM l0_1 x24_2).f0)):=(AK BK105.out 0).trans rfl
                                                    have hcz60_1:wr.cell? ⟨gb105,1,none⟩=some (.int .i64 ((AM l0_1 x24_2).f1)):=(AK BK105.out 1).trans rfl
                                                    have hcz60_2:wr.cell? ⟨gb105,2,none⟩=some (.int .i64 ((AM l0_1 x24_2).f2)):=(AK BK105.out 2).trans rfl
                                                    have hcz60_3:wr.cell? ⟨gb105,3,none⟩=some (.slice (some ad112) ((AM l0_1 x24_2).f3).length c104_3):=(AK BK105.out 3).trans rfl
                                                    have hfz60_0:=AJ BK105.out 0
                                                    have hfz60_1:=AJ BK105.out 1
                                                    have hfz60_2:=AJ BK105.out 2
                                                    have hfz60_3:=AJ BK105.out 3
                                                    have p113:0≤((ji55):Int):=yD
                                                    have q113:(ji55)<(((AM l0_1 x24_2).f3).length:Int):=yD
                                                    obtain ⟨ad113,e113,hx113_0⟩:=Kd.at_int HR104_3.out (ji55) p113 q113
                                                    obtain rfl:ad112=ad113:=(by injection e113)
                                                    replace hx113_0:=yC HB.out hx113_0
                                                    replace p113:=eq_true p113
                                                    replace q113:=eq_true q113
                                                    go_wp2
                                                    go_ret
                                                    exact ⟨by first|rfl|(simp [AZ,AY]<;>rfl)|(simp only [←hji55]; first|rfl|(simp [AZ,AY]<;>rfl))|(simp [*,AZ,AY]<;>rfl),by repeat (first|(with_reducible first|exact HB.out|apply AE|apply AC|apply AD|refine AI ?_ GE103.out|refine AI ?_ GE105.out)|exact HB.out)⟩
                                                  · rw [if_neg c58] at H
                                                    have c58b0:decide ((rd ((AM l0_1 x24_2).f3) x62_4)≤(rd ((AM l0_1 x24_2).f3) (ji55)))=false:=decide_eq_false c58
                                                    clear c58
                                                    have H':=yA H
                                                    clear H
                                                    have p112:0≤(x62_4:Int):=yD
                                                    have q112:x62_4<(((AM l0_1 x24_2).f3).length:Int):=yD
                                                    obtain ⟨ad112,e112,hx112_0⟩:=Kd.at_int HR104_3.out x62_4 p112 q112
                                                    cases e112
                                                    replace hx112_0:=yC HB.out hx112_0
                                                    replace p112:=eq_true p112
                                                    replace q112:=eq_true q112
                                                    have hnb61:=NB105_103.out
                                                    have hnc61:=NB103_105.out
                                                    have hcz62_0:wr.cell? ⟨gb105,0,none⟩=some (.string ((AM l0_1 x24_2).f0)):=(AK BK105.out 0).trans rfl
                                                    have hcz62_1:wr.cell? ⟨gb105,1,none⟩=some (.int .i64 ((AM l0_1 x24_2).f1)):=(AK BK105.out 1).trans rfl
                                                    have hcz62_2:wr.cell? ⟨gb105,2,none⟩=some (.int .i64 ((AM l0_1 x24_2).f2)):=(AK BK105.out 2).trans rfl
                                                    have hcz62_3:wr.cell? ⟨gb105,3,none⟩=some (.slice (some ad112) ((AM l0_1 x24_2).f3).length c104_3):=(AK BK105.out 3).trans rfl
                                                    have hfz62_0:=AJ BK105.out 0
                                                    have hfz62_1:=AJ BK105.out 1
                                                    have hfz62_2:=AJ BK105.out 2
                                                    have hfz62_3:=AJ BK105.out 3
                                                    have p113:0≤((ji55):Int):=yD
                                                    have q113:(ji55)<(((AM l0_1 x24_2).f3).length:Int):=yD
                                                    obtain ⟨ad113,e113,hx113_0⟩:=Kd.at_int HR104_3.out (ji55) p113 q113
                                                    obtain rfl:ad112=ad113:=(by injection e113)
                                                    replace hx113_0:=yC HB.out hx113_0
                                                    replace p113:=eq_true p113
                                                    replace q113:=eq_true q113
                                                    go_wp2
                                                    go_roundg k4
                                                    case measure=>have:=HJ1.out; have:=HK2.out; have:=HJ13.out; have:=HK4.out; omega
                                                    case rel=>exact ⟨(wrap64 (x62_4+1)),zG,H',⟨by have:=HJ1.out; have:=HK2.out; have:=HJ13.out; have:=HK4.out; omega⟩,⟨by (with_reducible repeat (first|refine AG ?_ _|refine AH ?_|refine AF ?_ _)); exact BK103.out⟩,⟨by (with_reducible repeat (first|refine AG ?_ _|refine AH ?_|refine AF ?_ _)); exact BK105.out⟩,⟨by repeat (first|(with_reducible first|exact HB.out|apply AE|apply AC|apply AD|refine AI ?_ GE103.out|refine AI ?_ GE105.out)|exact HB.out)⟩⟩
                                                · rw [if_neg c57] at H
                                                  exact absurd H zA6
                                              · rw [if_neg c56] at H
                                                exact absurd H zA6
                                            · rw [if_neg c54] at H
                                              have c54b0:decide (0<x62_4)=false:=decide_eq_false c54
                                              clear c54
                                              have H':=yA H
                                              clear H
                                              have p112:0≤(x62_4:Int):=yD
                                              have q112:x62_4<(((AM l0_1 x24_2).f3).length:Int):=yD
                                              obtain ⟨ad112,e112,hx112_0⟩:=Kd.at_int HR104_3.out x62_4 p112 q112
                                              cases e112
                                              replace hx112_0:=yC HB.out hx112_0
                                              replace p112:=eq_true p112
                                              replace q112:=eq_true q112
                                              go_wp2
                                              go_roundg k4
                                              case measure=>have:=HJ1.out; have:=HK2.out; have:=HJ13.out; have:=HK4.out; omega
                                              case rel=>exact ⟨(wrap64 (x62_4+1)),zG,H',⟨by have:=HJ1.out; have:=HK2.out; have:=HJ13.out; have:=HK4.out; omega⟩,⟨by (with_reducible repeat (first|refine AG ?_ _|refine AH ?_|refine AF ?_ _)); exact BK103.out⟩,⟨by (with_reducible repeat (first|refine AG ?_ _|refine AH ?_|refine AF ?_ _)); exact BK105.out⟩,⟨by repeat (first|(with_reducible first|exact HB.out|apply AE|apply AC|apply AD|refine AI ?_ GE103.out|refine AI ?_ GE105.out)|exact HB.out)⟩⟩
                                      · rw [if_neg c51] at H
                                        exact absurd H zA6
                                    · rw [if_neg c50] at H
                                      exact absurd H zA6
                                  · rw [if_neg c49] at H
                                    have c49b0:decide (x62_4<(((AM l0_1 x24_2).f3).length:Int))=false:=decide_eq_false c49
                                    clear c49
                                    have H':=yA H
                                    clear H
                                    go_wp2
                                    go_roundg k4
                                    case measure=>have:=HJ1.out; have:=HK2.out; have:=HJ13.out; have:=HK4.out; omega
                                    case rel=>exact ⟨(wrap64 (x24_2+1)),zG,H',⟨by have:=HJ1.out; have:=HK2.out; have:=HJ13.out; have:=HK4.out; omega⟩,⟨by (with_reducible repeat (first|refine AG ?_ _|refine AH ?_|refine AF ?_ _)); exact BK103.out⟩,⟨by repeat (first|(with_reducible first|exact HB.out|apply AE|apply AC|apply AD|refine AI ?_ GE103.out|refine AI ?_ GE105.out)|exact HB.out)⟩⟩
                          · rw [if_neg c35] at H
                            exact absurd H zA6
                        · rw [if_neg c34] at H
                          exact absurd H zA6
                · rw [if_neg c13] at H
                  exact absurd H zA6
              · rw [if_neg c12] at H
                exact absurd H zA6
            · rw [if_neg c11] at H
              have c11b0:decide (x24_2<(l0_1.length:Int))=false:=decide_eq_false c11
              clear c11
              obtain rfl:=Option.some.inj H
              go_wp2
              go_ret
              exact ⟨by first|rfl|(simp [AZ,AY]<;>rfl)|(simp [*,AZ,AY]<;>rfl),by repeat (first|(with_reducible first|exact HB.out|apply AE|apply AC|apply AD|refine AI ?_ GE103.out)|exact HB.out)⟩
end Go.Proofs.YtdadecjefafflaaDoor.PChk
end
