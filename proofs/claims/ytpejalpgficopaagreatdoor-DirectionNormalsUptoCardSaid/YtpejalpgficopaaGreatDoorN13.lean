/- A part of what the law's proof leans on. PACKED BY pack.py of this repo. -/
import Derived.Test.YtpejalpgficopaaGreatDoorN12
set_option linter.unusedVariables false
set_option linter.unusedSimpArgs false
set_option linter.defProp false
set_option linter.unusedSectionVars false
section
namespace Go.Proofs.YtpejalpgficopaaGreatDoor.G
set_option maxRecDepth 100000
open Go Go.Proofs RX
noncomputable abbrev we.code:Code:=loopIn (loopCode Tryz.f98 0) 2
noncomputable abbrev we.ex:=exec (R:=X×List Value×List (Option Blk)) Tryz.prog ⟨[],[],[]⟩ [] (hs Tryz.prog ⟨[],[],[]⟩ 3).lf (hs Tryz.prog ⟨[],[],[]⟩ 3).cf we.code
abbrev we.st (x0 x1 x2 x3 x4 g i a b:Int):St:=⟨gbuild [(1,.pointer (some ⟨0,0,none⟩)),(2,.int .i64 0),(3,.int .i64 g),(4,.int .i64 i),(5,.int .i64 a),(6,.int .i64 b)] 0 28,[(0,.cs [.int .i64 x0,.int .i64 x1,.int .i64 x2,.int .i64 x3,.int .i64 x4] 88)],272⟩
theorem we.rnd (x0 x1 x2 x3 x4 g i a b:Int):we.ex (we.st x0 x1 x2 x3 x4 g i a b) (pick 28 [1,2,3,4,5,6] [0])=
 bif b !=0 then bif b !=0 then RX.lk [1,2,3,4,5,6] [0] .normal (we.st x0 x1 x2 x3 x4 g i b (a.tmod b)) else none else RX.lk [1,2,3,4,5,6] [0] (.exit 2) (we.st x0 x1 x2 x3 x4 g i a b):=by kernel_rfl
theorem we.go {N:Nat→Prop} (x0 x1 x2 x3 x4 g i:Int):∀(n:Nat) (a b:Int),0≤a→0≤b→b≤(n:Int)→Lq Tryz.prog N we.code (we.st x0 x1 x2 x3 x4 g i a b) (.exit 2) (we.st x0 x1 x2 x3 x4 g i (gI a b) 0)
 | n,a,b,ha,hb,hn=>by
  by_cases h0:b=0
  ·subst h0
   rw [gI_eq,Int.gcd_zero_right,show ((a.natAbs:Nat):Int)=a by omega]
   exact .endK (f:=3) ⟨specs_nil,inl_nil,mixed_ok,lps_nil⟩ lsOk_nil ((we.rnd x0 x1 x2 x3 x4 g i a 0).cf rfl) (fun q=>by cases q) rfl rfl
  ·cases n with
   |zero=>omega
   | succ n=>
    have h1:(b !=0)=true:=bne_of h0
    have r:=((we.rnd x0 x1 x2 x3 x4 g i a b).ct h1).ct h1
    have m0:=Int.emod_nonneg a h0
    have m1:=Int.emod_lt_of_pos a (show 0<b by omega)
    rw [Int.tmod_eq_emod_of_nonneg ha] at r
    have e:gI b (a%b)=gI a b:=by rw [gI_eq,gI_eq,gcd_mod,Int.gcd_comm]
    rw [←e]
    exact .toK (f:=3) ⟨specs_nil,inl_nil,mixed_ok,lps_nil⟩ lsOk_nil r rfl rfl (we.go x0 x1 x2 x3 x4 g i n b (a%b) hb m0 (by omega))
noncomputable def we.lt (x0 x1 x2 x3 x4 g i a b:Int):LT:= .got (decide (0≤a)&&decide (0≤b)) (.exit 2) (we.st x0 x1 x2 x3 x4 g i (gI a b) 0)
noncomputable def we.t:LSpec:=fun S=>match RX.nth S.tmps 1,RX.nth S.tmps 2,RX.nth S.tmps 3,RX.nth S.tmps 4,RX.nth S.tmps 5,RX.nth S.tmps 6,RX.look S.heap 0 with
 | .pointer (some ⟨0,0,none⟩),.int .i64 z,.int .i64 g,.int .i64 i,.int .i64 a,.int .i64 b,some (.cs [.int .i64 x0,.int .i64 x1,.int .i64 x2,.int .i64 x3,.int .i64 x4] 88)=>bif Nat.beq S.tmps.length 28&&(Nat.beq S.nxt 272&&ieq z 0) then some (we.lt x0 x1 x2 x3 x4 g i a b) else none
 |_,_,_,_,_,_,_=>none
theorem we.lok {N:Nat→Prop} :LOKn Tryz.prog N we.code we.t:=by
 refine lok_q fun S lt x' S' ht hat=> ?_
 unfold we.t at ht
 split at ht
 ·rename_i z g i a b x0 x1 x2 x3 x4 h1 h2 h3 h4 h5 h6 g0
  cases hb:Nat.beq S.tmps.length 28&&(Nat.beq S.nxt 272&&ieq z 0) with
  |false=>rw [hb] at ht; cases ht
  | true=>
   rw [hb] at ht
   injection ht with ht
   subst ht
   simp only [Bool.and_eq_true,ieq_eq] at hb
   obtain ⟨hb,hnx,rfl⟩:=hb
   obtain ⟨hc,rfl,rfl⟩:=got_at hat
   simp only [Bool.and_eq_true,decide_eq_true_eq] at hc
   exact Lq.into 28 [1,2,3,4,5,6] [0] hb (Nat.eq_of_beq_eq_true hnx) (by simp only [List.map_cons,List.map_nil,h1,h2,h3,h4,h5,h6]; rfl) (by simp only [List.map_cons,List.map_nil,g0]; rfl) (S2:=we.st x0 x1 x2 x3 x4 g i a b) rfl (we.go x0 x1 x2 x3 x4 g i b.toNat a b hc.1 hc.2 (by omega))
 ·cases ht
noncomputable abbrev wg.code:Code:=loopCode Tryz.f98 0
noncomputable abbrev wg.ex:=exec (R:=X×List Value×List (Option Blk)) Tryz.prog ⟨[],[],[]⟩ [(2,we.t)] (hs Tryz.prog ⟨[],[],[]⟩ 5).lf (hs Tryz.prog ⟨[],[],[]⟩ 5).cf wg.code
theorem wg.ls {N:Nat→Prop} :LsOkn Tryz.prog N [(2,we.t)] wg.code:=loops_cons rfl we.lok lsOk_nil
abbrev wab (x:Int):Int:=if IntKind.i64.wrap (0-x)>x then IntKind.i64.wrap (0-x) else x
abbrev wg0.st (x0 x1 x2 x3 x4 g:Int):St:=⟨gbuild [(1,.pointer (some ⟨0,0,none⟩)),(2,.int .i64 0),(3,.int .i64 g),(4,.int .i64 0)] 0 28,[(0,.cs [.int .i64 x0,.int .i64 x1,.int .i64 x2,.int .i64 x3,.int .i64 x4] 88)],64⟩
abbrev wg1.st (x0 x1 x2 x3 x4 g:Int):St:=⟨gbuild [(1,.pointer (some ⟨0,0,none⟩)),(2,.int .i64 0),(3,.int .i64 g),(4,.int .i64 1)] 0 28,[(0,.cs [.int .i64 x0,.int .i64 x1,.int .i64 x2,.int .i64 x3,.int .i64 x4] 88)],64⟩
abbrev wg2.st (x0 x1 x2 x3 x4 g:Int):St:=⟨gbuild [(1,.pointer (some ⟨0,0,none⟩)),(2,.int .i64 0),(3,.int .i64 g),(4,.int .i64 2)] 0 28,[(0,.cs [.int .i64 x0,.int .i64 x1,.int .i64 x2,.int .i64 x3,.int .i64 x4] 88)],64⟩
abbrev wg3.st (x0 x1 x2 x3 x4 g:Int):St:=⟨gbuild [(1,.pointer (some ⟨0,0,none⟩)),(2,.int .i64 0),(3,.int .i64 g),(4,.int .i64 3)] 0 28,[(0,.cs [.int .i64 x0,.int .i64 x1,.int .i64 x2,.int .i64 x3,.int .i64 x4] 88)],64⟩
abbrev wg4.st (x0 x1 x2 x3 x4 g:Int):St:=⟨gbuild [(1,.pointer (some ⟨0,0,none⟩)),(2,.int .i64 0),(3,.int .i64 g),(4,.int .i64 4)] 0 28,[(0,.cs [.int .i64 x0,.int .i64 x1,.int .i64 x2,.int .i64 x3,.int .i64 x4] 88)],64⟩
abbrev wg5.st (x0 x1 x2 x3 x4 g:Int):St:=⟨gbuild [(1,.pointer (some ⟨0,0,none⟩)),(2,.int .i64 0),(3,.int .i64 g),(4,.int .i64 5)] 0 28,[(0,.cs [.int .i64 x0,.int .i64 x1,.int .i64 x2,.int .i64 x3,.int .i64 x4] 88)],64⟩
def wgok (x:Int):Bool:=decide (-4611686018427387904≤x)&&decide (x≤4611686018427387904)
theorem wab_eq {x:Int} (h:wgok x=true):0≤wab x∧∀g,gI g (wab x)=gI g x:=by
 simp only [wgok,Bool.and_eq_true,decide_eq_true_eq] at h
 have w:IntKind.i64.wrap (0-x)= -x:=by rw [w64 (by omega) (by omega)]; omega
 unfold wab
 rw [w]
 refine ⟨by split<;>omega,fun g=> ?_⟩
 rw [gI_eq,gI_eq]
 split
 ·rw [Int.gcd_neg]
 ·rfl
theorem gI_nonneg (a b:Int):0≤gI a b:=by rw [gI_eq]; omega
theorem wg0.rnd (x0 x1 x2 x3 x4 g:Int):wg.ex (wg0.st x0 x1 x2 x3 x4 g) (pick 28 [1,2,3,4] [0])=bif decide (0≤g)&&decide (0≤wab x0) then RX.lk [1,2,3,4] [0] .normal (wg1.st x0 x1 x2 x3 x4 (gI g (wab x0))) else none:=by kernel_rfl
theorem wg1.rnd (x0 x1 x2 x3 x4 g:Int):wg.ex (wg1.st x0 x1 x2 x3 x4 g) (pick 28 [1,2,3,4] [0])=bif decide (0≤g)&&decide (0≤wab x1) then RX.lk [1,2,3,4] [0] .normal (wg2.st x0 x1 x2 x3 x4 (gI g (wab x1))) else none:=by kernel_rfl
theorem wg2.rnd (x0 x1 x2 x3 x4 g:Int):wg.ex (wg2.st x0 x1 x2 x3 x4 g) (pick 28 [1,2,3,4] [0])=bif decide (0≤g)&&decide (0≤wab x2) then RX.lk [1,2,3,4] [0] .normal (wg3.st x0 x1 x2 x3 x4 (gI g (wab x2))) else none:=by kernel_rfl
theorem wg3.rnd (x0 x1 x2 x3 x4 g:Int):wg.ex (wg3.st x0 x1 x2 x3 x4 g) (pick 28 [1,2,3,4] [0])=bif decide (0≤g)&&decide (0≤wab x3) then RX.lk [1,2,3,4] [0] .normal (wg4.st x0 x1 x2 x3 x4 (gI g (wab x3))) else none:=by kernel_rfl
theorem wg4.rnd (x0 x1 x2 x3 x4 g:Int):wg.ex (wg4.st x0 x1 x2 x3 x4 g) (pick 28 [1,2,3,4] [0])=bif decide (0≤g)&&decide (0≤wab x4) then RX.lk [1,2,3,4] [0] .normal (wg5.st x0 x1 x2 x3 x4 (gI g (wab x4))) else none:=by kernel_rfl
theorem wg5.rnd (x0 x1 x2 x3 x4 g:Int):wg.ex (wg5.st x0 x1 x2 x3 x4 g) (pick 28 [1,2,3,4] [0])=RX.lk [1,2,3,4] [0] (.exit 0) (wg5.st x0 x1 x2 x3 x4 g):=by kernel_rfl
noncomputable def wg.lt (x0 x1 x2 x3 x4:Int):LT:= .got (wgok x0&&wgok x1&&wgok x2&&wgok x3&&wgok x4) (.exit 0) (wg5.st x0 x1 x2 x3 x4 (gI (gI (gI (gI (gI 0 x0) x1) x2) x3) x4))
theorem wg.lp {N:Nat→Prop} (x0 x1 x2 x3 x4:Int) (h:(wgok x0&&wgok x1&&wgok x2&&wgok x3&&wgok x4)=true):Lq Tryz.prog N wg.code (wg0.st x0 x1 x2 x3 x4 0) (.exit 0) (wg5.st x0 x1 x2 x3 x4 (gI (gI (gI (gI (gI 0 x0) x1) x2) x3) x4)):=by
 simp only [Bool.and_eq_true] at h
 obtain ⟨⟨⟨⟨h0,h1⟩,h2⟩,h3⟩,h4⟩:=h
 have r0:=(wg0.rnd x0 x1 x2 x3 x4 0).ct (dtrue2 (Int.le_refl _) (wab_eq h0).1)
 rw [(wab_eq h0).2] at r0
 refine .to (f:=5) ⟨specs_nil,inl_nil,mixed_ok,lps_nil⟩ wg.ls r0 rfl ?_
 have r1:=(wg1.rnd x0 x1 x2 x3 x4 (gI 0 x0)).ct (dtrue2 (gI_nonneg _ _) (wab_eq h1).1)
 rw [(wab_eq h1).2] at r1
 refine .to (f:=5) ⟨specs_nil,inl_nil,mixed_ok,lps_nil⟩ wg.ls r1 rfl ?_
 have r2:=(wg2.rnd x0 x1 x2 x3 x4 (gI (gI 0 x0) x1)).ct (dtrue2 (gI_nonneg _ _) (wab_eq h2).1)
 rw [(wab_eq h2).2] at r2
 refine .to (f:=5) ⟨specs_nil,inl_nil,mixed_ok,lps_nil⟩ wg.ls r2 rfl ?_
 have r3:=(wg3.rnd x0 x1 x2 x3 x4 (gI (gI (gI 0 x0) x1) x2)).ct (dtrue2 (gI_nonneg _ _) (wab_eq h3).1)
 rw [(wab_eq h3).2] at r3
 refine .to (f:=5) ⟨specs_nil,inl_nil,mixed_ok,lps_nil⟩ wg.ls r3 rfl ?_
 have r4:=(wg4.rnd x0 x1 x2 x3 x4 (gI (gI (gI (gI 0 x0) x1) x2) x3)).ct (dtrue2 (gI_nonneg _ _) (wab_eq h4).1)
 rw [(wab_eq h4).2] at r4
 refine .to (f:=5) ⟨specs_nil,inl_nil,mixed_ok,lps_nil⟩ wg.ls r4 rfl ?_
 exact .end (f:=5) ⟨specs_nil,inl_nil,mixed_ok,lps_nil⟩ wg.ls (wg5.rnd x0 x1 x2 x3 x4 _) (fun q=>by cases q) rfl
noncomputable def wg.t:LSpec:=fun S=>match RX.nth S.tmps 1,RX.nth S.tmps 2,RX.nth S.tmps 3,RX.nth S.tmps 4,RX.look S.heap 0 with
 | .pointer (some ⟨0,0,none⟩),.int .i64 z,.int .i64 g,.int .i64 i,some (.cs [.int .i64 x0,.int .i64 x1,.int .i64 x2,.int .i64 x3,.int .i64 x4] 88)=>bif Nat.beq S.tmps.length 28&&(Nat.beq S.nxt 64&&(ieq z 0&&(ieq g 0&&ieq i 0))) then some (wg.lt x0 x1 x2 x3 x4) else none
 |_,_,_,_,_=>none
theorem wg.lok {N:Nat→Prop} :LOKn Tryz.prog N wg.code wg.t:=by
 refine lok_q fun S lt x' S' ht hat=> ?_
 unfold wg.t at ht
 split at ht
 ·rename_i z g i x0 x1 x2 x3 x4 h1 h2 h3 h4 g0
  cases hb:Nat.beq S.tmps.length 28&&(Nat.beq S.nxt 64&&(ieq z 0&&(ieq g 0&&ieq i 0))) with
  |false=>rw [hb] at ht; cases ht
  | true=>
   rw [hb] at ht
   injection ht with ht
   subst ht
   simp only [Bool.and_eq_true,ieq_eq] at hb
   obtain ⟨hb,hnx,rfl,rfl,rfl⟩:=hb
   obtain ⟨hc,rfl,rfl⟩:=got_at hat
   exact Lq.into 28 [1,2,3,4] [0] hb (Nat.eq_of_beq_eq_true hnx) (by simp only [List.map_cons,List.map_nil,h1,h2,h3,h4]; rfl) (by simp only [List.map_cons,List.map_nil,g0]; rfl) (S2:=wg0.st x0 x1 x2 x3 x4 0) rfl (wg.lp x0 x1 x2 x3 x4 hc)
 ·cases ht
theorem rgcd.run (x0 x1 x2 x3 x4:Int):xfn Tryz.prog ⟨[],[],[]⟩ [(0,wg.t)] 10 Tryz.f98 [.agg ⟨[.int .i64 x0,.int .i64 x1,.int .i64 x2,.int .i64 x3,.int .i64 x4]⟩] []=bif wgok x0&&wgok x1&&wgok x2&&wgok x3&&wgok x4 then some (.int .i64 (gI (gI (gI (gI (gI 0 x0) x1) x2) x3) x4),[]) else none:=by kernel_rfl
noncomputable def rgcd.sp:HSpec
 |[.agg ⟨[.int .i64 x0,.int .i64 x1,.int .i64 x2,.int .i64 x3,.int .i64 x4]⟩],[]=>some (wgok x0&&wgok x1&&wgok x2&&wgok x3&&wgok x4,.int .i64 (gI (gI (gI (gI (gI 0 x0) x1) x2) x3) x4),[])
 |_,_=>none
theorem rgcd.ok:SOK Tryz.prog 98 rgcd.sp:=by
 refine sok_of (E:=⟨[],[],[]⟩) (L:=[(0,wg.t)]) ⟨specs_nil,inl_nil,mixed_ok,lps_nil⟩ 10 Tryz.func98 (by decide) rfl (one_loop rfl rfl wg.lok) fun vs bl v bl' h=> ?_
 unfold rgcd.sp at h
 split at h
 ·rename_i x0 x1 x2 x3 x4
  simp only [Option.some.injEq,Prod.mk.injEq] at h
  obtain ⟨h1,rfl,rfl⟩:=h
  exact ⟨(rgcd.run x0 x1 x2 x3 x4).trans (ct h1),by simp [okV],clo_spec 8 _ rfl,told_blk rfl⟩
 ·cases h
end Go.Proofs.YtpejalpgficopaaGreatDoor.G
end
section
namespace Go.Proofs.YtpejalpgficopaaGreatDoor.G
set_option maxRecDepth 100000
open Go Go.Proofs RX
abbrev wi6.st (b:Bool) (s:ByteArray) (u:Int) (i:Int) (nx:Nat):St:=⟨gbuild [(1,.pointer (some ⟨0,0,none⟩)),(4,.int .u64 u),(5,.int .i64 i)] 0 52,[(0,.cs [Value.bool b,Value.string s] 23)],nx⟩
theorem wi6.rnd (b:Bool) (s:ByteArray) (u:Int) (i:Int) (nx:Nat):exec Tryz.prog ⟨[],[],[]⟩ [] (hs Tryz.prog ⟨[],[],[]⟩ 3).lf (hs Tryz.prog ⟨[],[],[]⟩ 3).cf (loopCode Tryz.f139 0) (wi6.st b s u i nx) (pick 52 [1,4,5] [0])=
 bif decide (i<((s.size:Nat):Int)) then bif decide (0≤i)&&decide (i<((s.size:Nat):Int)) then lk [1,4,5] [0] .normal (wi6.st b s (IntKind.u64.wrap (IntKind.u64.wrap (u*2^min (Int.toNat 8) IntKind.u64.bits)+IntKind.u64.wrap (((s.data.toList.getD i.toNat 0).toNat:Nat):Int))) (IntKind.i64.wrap (i+1)) nx) else none else lk [1,4,5] [0] (.exit 0) (wi6.st b s u i nx):=by kernel_rfl
theorem wi6.step0 {N:Nat→Prop} (b:Bool) (s:ByteArray) (u:Int) (i:Int) (nx:Nat) (h0:(decide (i<((s.size:Nat):Int)))=true) (h1:(decide (0≤i)&&decide (i<((s.size:Nat):Int)))=true) {x:X} {S':St} (ih:Lq Tryz.prog N (loopCode Tryz.f139 0) (wi6.st b s (IntKind.u64.wrap (IntKind.u64.wrap (u*2^min (Int.toNat 8) IntKind.u64.bits)+IntKind.u64.wrap (((s.data.toList.getD i.toNat 0).toNat:Nat):Int))) (IntKind.i64.wrap (i+1)) nx) x (S')):Lq Tryz.prog N (loopCode Tryz.f139 0) (wi6.st b s u i nx) x (S'):=
 .toK (f:=3) ⟨specs_nil,inl_nil,mixed_ok,lps_nil⟩ lsOk_nil (((wi6.rnd b s u i nx).trans (ct h0)).trans (ct h1)) rfl rfl ih
theorem wi6.stop1 {N:Nat→Prop} (b:Bool) (s:ByteArray) (u:Int) (i:Int) (nx:Nat) (h0:(decide (i<((s.size:Nat):Int)))=false):Lq Tryz.prog N (loopCode Tryz.f139 0) (wi6.st b s u i nx) (.exit 0) (wi6.st b s u i nx):=
 .endK (f:=3) ⟨specs_nil,inl_nil,mixed_ok,lps_nil⟩ lsOk_nil ((wi6.rnd b s u i nx).trans (cf h0)) (fun q=>by cases q) rfl rfl
theorem wi6.enter {N:Nat→Prop} {S S':St} {x:X} {b:Bool} {s:ByteArray} {u:Int} {i:Int} (h1:RX.nth S.tmps 1= .pointer (some ⟨0,0,none⟩)) (h4:RX.nth S.tmps 4= .int .u64 u) (h5:RX.nth S.tmps 5= .int .i64 i) (g0:RX.look S.heap 0=some (.cs [Value.bool b,Value.string s] 23)) (hl:S.tmps.length=52) (hk:Lq Tryz.prog N (loopCode Tryz.f139 0) (wi6.st b s u i S.nxt) x (S')):Lq Tryz.prog N (loopCode Tryz.f139 0) (S) x (S'):=by
 obtain ⟨T,H,n⟩:=S
 exact .enter (fun h=>wk_of hl (.cons ⟨h1,bnth h h1⟩ (.cons ⟨h4,bnth h h4⟩ (.cons ⟨h5,bnth h h5⟩ .nil))) (.cons ⟨g0,bname h g0,rfl⟩ .nil)) hk
def wi6.lt (b:Bool) (s:ByteArray) (u i:Int) (nx:Nat):LT:= .got (decide (u=0)&&(decide (i=0)&&Nat.ble s.size 8)) (.exit 0) (wi6.st b s (bv s.data.toList) (s.size:Int) nx)
theorem wi6.go {N:Nat→Prop} (b:Bool) (s:ByteArray) (nx:Nat) (h8:s.size≤8):∀(d k:Nat),k+d=s.size→Lq Tryz.prog N (loopCode Tryz.f139 0) (wi6.st b s (bv (s.data.toList.take k)) (k:Int) nx) (.exit 0) (wi6.st b s (bv s.data.toList) (s.size:Int) nx)
 | 0,k,h=>by
  have e:k=s.size:=by omega
  subst e
  rw [show s.data.toList.take s.size=s.data.toList from List.take_of_length_le (Nat.le_refl _)]
  exact wi6.stop1 b s _ _ nx (dfalse (by omega))
 | d +1,k,h=>by
  have hs:s.data.toList.length=s.size:=rfl
  have h1:s.data.toList.take (k+1)=s.data.toList.take k++[s.data.toList.getD k 0]:=by
   rw [List.take_add_one,List.getD_eq_getElem?_getD,List.getElem?_eq_getElem (by omega)]; rfl
  have h2:=bv_lt (s.data.toList.take k)
  have h3:=bv_nonneg (s.data.toList.take k)
  have h4:p8 (s.data.toList.take k).length≤72057594037927936:=Int.le_trans (p8_mono (show (s.data.toList.take k).length≤7 by rw [List.length_take]; omega)) (by decide)
  have hb:(s.data.toList.getD k 0).toNat<256:=(s.data.toList.getD k 0).toNat_lt
  refine wi6.step0 b s _ _ nx (dtrue (by omega)) (dtrue2 (by omega) (by omega)) ?_
  have w:IntKind.i64.wrap ((k:Int)+1)=((k+1:Nat):Int):=by rw [w64 (by omega) (by omega)]; omega
  rw [w,Int.toNat_natCast,show ((2:Int)^min (Int.toNat 8) IntKind.u64.bits)=256 from rfl]
  have e:IntKind.u64.wrap (IntKind.u64.wrap (bv (s.data.toList.take k)*256)+IntKind.u64.wrap (((s.data.toList.getD k 0).toNat:Nat):Int))=bv (s.data.toList.take (k+1)):=by
   rw [h1,bv_snoc,u64of (n:=bv (s.data.toList.take k)*256) (by omega) (by omega),u64of (n:=(((s.data.toList.getD k 0).toNat:Nat):Int)) (by omega) (by omega),u64of (by omega) (by omega)]
   omega
  rw [e]
  exact wi6.go b s nx h8 d (k+1) (by omega)
theorem wi6.lp {N:Nat→Prop} (b:Bool) (s:ByteArray) (u i:Int) (nx:Nat) {x:X} {S':St} (h:(wi6.lt b s u i nx).at=some (x,S')):Lq Tryz.prog N (loopCode Tryz.f139 0) (wi6.st b s u i nx) x S':=by
 obtain ⟨h1,rfl,rfl⟩:=got_at h
 simp only [Bool.and_eq_true,decide_eq_true_eq,Nat.ble_eq] at h1
 obtain ⟨rfl,rfl,h2⟩:=h1
 exact wi6.go b s nx h2 s.size 0 (Nat.zero_add _)
def wi6.t:LSpec:=fun S=>match RX.nth S.tmps 1,RX.nth S.tmps 4,RX.nth S.tmps 5,RX.look S.heap 0 with
 | .pointer (some ⟨0,0,none⟩),.int .u64 u,.int .i64 i,some (.cs [Value.bool b,Value.string s] 23)=>bif Nat.beq S.tmps.length 52 then some (wi6.lt b s u i S.nxt) else none
 |_,_,_,_=>none
theorem wi6.lok {N:Nat→Prop} :LOKn Tryz.prog N (loopCode Tryz.f139 0) (wi6.t):=by
 refine lok_q fun S lt x S' ht hat=> ?_
 unfold wi6.t at ht
 split at ht
 ·rename_i u i b s h1 h4 h5 g0
  cases hb:Nat.beq S.tmps.length 52 with
  |false=>rw [hb] at ht; cases ht
  | true=>
   rw [hb] at ht
   injection ht with ht
   subst ht
   have hb:=Nat.eq_of_beq_eq_true hb
   exact wi6.enter h1 h4 h5 g0 hb (wi6.lp _ _ _ _ _ hat)
 ·cases ht
def i64ok (n:Bool) (s:ByteArray):Bool:=vld n s&&(Nat.ble s.size 8&&(decide (-9223372036854775808≤vl n s)&&decide (vl n s<9223372036854775808)))
def rI64.sp:HSpec
 |[.agg ⟨[.bool n,.string s]⟩],[]=>some (true,.tuple ⟨[.int .i64 (bif i64ok n s then vl n s else 0),.bool (i64ok n s)]⟩,[])
 |_,_=>none
theorem wri6.run (na:Bool) (sa:ByteArray):xfn Tryz.prog ⟨[(99,Valid.sp)],[],[]⟩ [(0,wi6.t)] 10 Tryz.f139 [.agg ⟨[.bool na,.string sa]⟩] []=
 bif !vld na sa then some ((Value.tuple ⟨[Value.int IntKind.i64 0,Value.bool false]⟩,[])) else bif decide (((sa.size:Nat):Int)>8) then some ((Value.tuple ⟨[Value.int IntKind.i64 0,Value.bool false]⟩,[])) else bif decide (0=0)&&(decide (0=0)&&sa.size.ble 8) then bif na then bif decide (bv sa.data.toList≤9223372036854775808) then some ((Value.tuple ⟨[Value.int IntKind.i64 (IntKind.i64.wrap (IntKind.i64.wrap (0-IntKind.i64.wrap (IntKind.u64.wrap (bv sa.data.toList-1)))-1)),Value.bool true]⟩,[])) else bif !na then bif decide (bv sa.data.toList<9223372036854775808) then some ((Value.tuple ⟨[Value.int IntKind.i64 (IntKind.i64.wrap (bv sa.data.toList)),Value.bool true]⟩,[])) else some ((Value.tuple ⟨[Value.int IntKind.i64 0,Value.bool false]⟩,[])) else some ((Value.tuple ⟨[Value.int IntKind.i64 0,Value.bool false]⟩,[])) else bif !na then bif decide (bv sa.data.toList<9223372036854775808) then some ((Value.tuple ⟨[Value.int IntKind.i64 (IntKind.i64.wrap (bv sa.data.toList)),Value.bool true]⟩,[])) else some ((Value.tuple ⟨[Value.int IntKind.i64 0,Value.bool false]⟩,[])) else some ((Value.tuple ⟨[Value.int IntKind.i64 0,Value.bool false]⟩,[])) else none:=by kernel_rfl
theorem vld_pos {n:Bool} {s:ByteArray} (h:vld n s=true) (hn:n=true):0<bv s.data.toList:=by
 obtain ⟨⟨l⟩⟩:=s
 subst hn
 cases l with
 |nil=>cases h
 | cons b r=>
  have hb:(b.toNat==0)=false:=by simpa [vld,vldL] using h
  have:=bv_pos_head (r:=r) hb
  have:=p8_pos r.length
  show 0<bv (b::r)
  omega
theorem rI64.ok:SOK Tryz.prog 139 rI64.sp:=by
 refine sok_of (E:=⟨[(99,Valid.sp)],[],[]⟩) (L:=[(0,wi6.t)]) ⟨specs_cons rValidR.ok specs_nil,inl_nil,mixed_ok,lps_nil⟩ 10 Tryz.func139 (by decide) rfl (one_loop rfl rfl wi6.lok) fun vs bl v bl' h=> ?_
 unfold rI64.sp at h
 split at h
 ·rename_i n s
  simp only [Option.some.injEq,Prod.mk.injEq,true_and] at h
  obtain ⟨rfl,rfl⟩:=h
  refine ⟨(wri6.run n s).trans ?_,by simp [okV],clo_spec 8 _ rfl,told_blk rfl⟩
  unfold i64ok
  cases va:vld n s with
  |false=>rfl
  |true=>
  by_cases h8:s.size≤8
  ·have hb:=bv_nonneg s.data.toList
   rw [dfalse (show ¬((s.size:Nat):Int)>8 by omega),Nat.ble_eq_true_of_le h8]
   simp only [Bool.not_true,cond_false,cond_true,decide_true,Bool.and_self,Bool.true_and]
   cases n with
   | true=>
    have hp:=vld_pos va rfl
    have hv:vl true s= -bv s.data.toList:=rfl
    rw [hv]
    by_cases hc:bv s.data.toList≤9223372036854775808
    ·rw [dtrue hc,dtrue (show -9223372036854775808≤ -bv s.data.toList by omega),dtrue (show -bv s.data.toList<9223372036854775808 by omega),u64of (by omega) (by omega),w64 (n:=bv s.data.toList-1) (by omega) (by omega),w64 (n:=0-(bv s.data.toList-1)) (by omega) (by omega),w64 (by omega) (by omega)]
     simp only [cond_true,Bool.and_self]
     congr 6
     omega
    ·rw [dfalse hc,dfalse (show ¬ -9223372036854775808≤ -bv s.data.toList by omega)]
     rfl
   | false=>
    have hv:vl false s=bv s.data.toList:=rfl
    rw [hv]
    by_cases hc:bv s.data.toList<9223372036854775808
    ·rw [dtrue hc,dtrue (show -9223372036854775808≤bv s.data.toList by omega),w64 (n:=bv s.data.toList) (by omega) (by omega)]
     rfl
    ·rw [dfalse hc,dtrue (show -9223372036854775808≤bv s.data.toList by omega)]
     rfl
  ·rw [dtrue (show ((s.size:Nat):Int)>8 by omega)]
   have:Nat.ble s.size 8=false:=by
    cases h:Nat.ble s.size 8 with
    |false=>rfl
    |true=>exact absurd (Nat.le_of_ble_eq_true h) h8
   rw [this]
   rfl
 ·cases h
end Go.Proofs.YtpejalpgficopaaGreatDoor.G
end
section
namespace Go.Proofs.YtpejalpgficopaaGreatDoor.G
set_option maxRecDepth 100000
open Go Go.Proofs RX
def small7 (n:Bool) (s:ByteArray):Int:=bif vld n s then vl n s else 0
def rsmall.sp:HSpec
 |[.agg ⟨[.bool n,.string s]⟩],[]=>some (true,.tuple ⟨[.int .i64 (bif Nat.ble s.size 7 then small7 n s else 0),.bool (Nat.ble s.size 7)]⟩,[])
 |_,_=>none
theorem wrsm.run (na:Bool) (sa:ByteArray):xfn Tryz.prog ⟨[(139,rI64.sp)],[],[]⟩ [] 10 Tryz.f105 [.agg ⟨[.bool na,.string sa]⟩] []=
 bif decide (((sa.size:Nat):Int)>7) then some ((Value.tuple ⟨[Value.int IntKind.i64 0,Value.bool false]⟩,[])) else some ((Value.tuple ⟨[Value.int IntKind.i64 (bif i64ok na sa then vl na sa else 0),Value.bool true]⟩,[])):=by kernel_rfl
theorem rsmall.ok:SOK Tryz.prog 105 rsmall.sp:=by
 refine sok_of (E:=⟨[(139,rI64.sp)],[],[]⟩) (L:=[]) ⟨specs_cons rI64.ok specs_nil,inl_nil,mixed_ok,lps_nil⟩ 10 Tryz.func105 (by decide) rfl no_loops fun vs bl v bl' h=> ?_
 unfold rsmall.sp at h
 split at h
 ·rename_i n s
  simp only [Option.some.injEq,Prod.mk.injEq,true_and] at h
  obtain ⟨rfl,rfl⟩:=h
  refine ⟨(wrsm.run n s).trans ?_,by simp [okV],clo_spec 8 _ rfl,told_blk rfl⟩
  by_cases h7:s.size≤7
  ·rw [dfalse (show ¬((s.size:Nat):Int)>7 by omega),Nat.ble_eq_true_of_le h7]
   simp only [cond_false,cond_true]
   congr 5
   unfold small7 i64ok
   cases va:vld n s with
   |false=>rfl
   | true=>
    have hb:=bv_nonneg s.data.toList
    have h1:=bv_lt s.data.toList
    have h2:p8 s.data.toList.length≤72057594037927936:=Int.le_trans (p8_mono (show s.data.toList.length≤7 from h7)) (by decide)
    have h3: -72057594037927936≤vl n s∧vl n s<72057594037927936:=by unfold vl; cases n<;>simp only [cond_true,cond_false]<;>omega
    rw [Nat.ble_eq_true_of_le (show s.size≤8 by omega),dtrue (show -9223372036854775808≤vl n s by omega),dtrue (show vl n s<9223372036854775808 by omega)]
    rfl
  ·rw [dtrue (show ((s.size:Nat):Int)>7 by omega)]
   have:Nat.ble s.size 7=false:=by
    cases h:Nat.ble s.size 7 with
    |false=>rfl
    |true=>exact absurd (Nat.le_of_ble_eq_true h) h7
   rw [this]
   rfl
 ·cases h
abbrev wgc.st (zb:Bool) (zs:ByteArray) (n:Int) (m:Int) (nx:Nat):St:=⟨gbuild [(4,.pointer (some ⟨32,0,none⟩)),(5,.int .i64 n),(7,.int .i64 m)] 0 111,[(32,.cs [Value.bool zb,Value.string zs] 23)],nx⟩
theorem wgc.rnd (zb:Bool) (zs:ByteArray) (n:Int) (m:Int) (nx:Nat):exec Tryz.prog ⟨[],[],[]⟩ [] (hs Tryz.prog ⟨[],[],[]⟩ 3).lf (hs Tryz.prog ⟨[],[],[]⟩ 3).cf (loopCode Tryz.f100 0) (wgc.st zb zs n m nx) (pick 111 [4,5,7] [32])=
 bif m !=0 then bif m !=0 then lk [4,5,7] [32] .normal (wgc.st zb zs m (n.tmod m) nx) else none else lk [4,5,7] [32] (.exit 0) (wgc.st zb zs n m nx):=by kernel_rfl
theorem wgc.step0 {N:Nat→Prop} (zb:Bool) (zs:ByteArray) (n:Int) (m:Int) (nx:Nat) (h0:(m !=0)=true) (h1:(m !=0)=true) {x:X} {S':St} (ih:Lq Tryz.prog N (loopCode Tryz.f100 0) (wgc.st zb zs m (n.tmod m) nx) x (S')):Lq Tryz.prog N (loopCode Tryz.f100 0) (wgc.st zb zs n m nx) x (S'):=
 .toK (f:=3) ⟨specs_nil,inl_nil,mixed_ok,lps_nil⟩ lsOk_nil (((wgc.rnd zb zs n m nx).trans (ct h0)).trans (ct h1)) rfl rfl ih
theorem wgc.stop1 {N:Nat→Prop} (zb:Bool) (zs:ByteArray) (n:Int) (m:Int) (nx:Nat) (h0:(m !=0)=false):Lq Tryz.prog N (loopCode Tryz.f100 0) (wgc.st zb zs n m nx) (.exit 0) (wgc.st zb zs n m nx):=
 .endK (f:=3) ⟨specs_nil,inl_nil,mixed_ok,lps_nil⟩ lsOk_nil ((wgc.rnd zb zs n m nx).trans (cf h0)) (fun q=>by cases q) rfl rfl
theorem wgc.enter {N:Nat→Prop} {S S':St} {x:X} {zb:Bool} {zs:ByteArray} {n:Int} {m:Int} (h4:RX.nth S.tmps 4= .pointer (some ⟨32,0,none⟩)) (h5:RX.nth S.tmps 5= .int .i64 n) (h7:RX.nth S.tmps 7= .int .i64 m) (g32:RX.look S.heap 32=some (.cs [Value.bool zb,Value.string zs] 23)) (hl:S.tmps.length=111) (hk:Lq Tryz.prog N (loopCode Tryz.f100 0) (wgc.st zb zs n m S.nxt) x (S')):Lq Tryz.prog N (loopCode Tryz.f100 0) (S) x (S'):=by
 obtain ⟨T,H,n⟩:=S
 exact .enter (fun h=>wk_of hl (.cons ⟨h4,bnth h h4⟩ (.cons ⟨h5,bnth h h5⟩ (.cons ⟨h7,bnth h h7⟩ .nil))) (.cons ⟨g32,bname h g32,rfl⟩ .nil)) hk
theorem wgc.go {N:Nat→Prop} (zb:Bool) (zs:ByteArray) (nx:Nat):∀(k:Nat) (a b:Int),0≤a→0≤b→b≤(k:Int)→Lq Tryz.prog N (loopCode Tryz.f100 0) (wgc.st zb zs a b nx) (.exit 0) (wgc.st zb zs (gI a b) 0 nx)
 | k,a,b,ha,hb,hn=>by
  by_cases h0:b=0
  ·subst h0
   rw [gI_eq,Int.gcd_zero_right,show ((a.natAbs:Nat):Int)=a by omega]
   exact wgc.stop1 zb zs a 0 nx rfl
  ·cases k with
   |zero=>omega
   | succ k=>
    have h1:(b !=0)=true:=bne_of h0
    refine wgc.step0 zb zs a b nx h1 h1 ?_
    have m0:=Int.emod_nonneg a h0
    have m1:=Int.emod_lt_of_pos a (show 0<b by omega)
    rw [Int.tmod_eq_emod_of_nonneg ha]
    have e:gI b (a%b)=gI a b:=by rw [gI_eq,gI_eq,gcd_mod,Int.gcd_comm]
    rw [←e]
    exact wgc.go zb zs nx k b (a%b) hb m0 (by omega)
noncomputable def wgc.lt (zb:Bool) (zs:ByteArray) (n m:Int) (nx:Nat):LT:= .got (decide (0≤n)&&decide (0≤m)) (.exit 0) (wgc.st zb zs (gI n m) 0 nx)
theorem wgc.lp {N:Nat→Prop} (zb:Bool) (zs:ByteArray) (n m:Int) (nx:Nat) {x:X} {S':St} (h:(wgc.lt zb zs n m nx).at=some (x,S')):Lq Tryz.prog N (loopCode Tryz.f100 0) (wgc.st zb zs n m nx) x S':=by
 obtain ⟨h1,rfl,rfl⟩:=got_at h
 simp only [Bool.and_eq_true,decide_eq_true_eq] at h1
 exact wgc.go zb zs nx m.toNat n m h1.1 h1.2 (by omega)
noncomputable def wgc.t:LSpec:=fun S=>match RX.nth S.tmps 4,RX.nth S.tmps 5,RX.nth S.tmps 7,RX.look S.heap 32 with
 | .pointer (some ⟨32,0,none⟩),.int .i64 n,.int .i64 m,some (.cs [Value.bool zb,Value.string zs] 23)=>bif Nat.beq S.tmps.length 111 then some (wgc.lt zb zs n m S.nxt) else none
 |_,_,_,_=>none
theorem wgc.lok {N:Nat→Prop} :LOKn Tryz.prog N (loopCode Tryz.f100 0) (wgc.t):=by
 refine lok_q fun S lt x S' ht hat=> ?_
 unfold wgc.t at ht
 split at ht
 ·rename_i n m zb zs h4 h5 h7 g32
  cases hb:Nat.beq S.tmps.length 111 with
  |false=>rw [hb] at ht; cases ht
  | true=>
   rw [hb] at ht
   injection ht with ht
   subst ht
   have hb:=Nat.eq_of_beq_eq_true hb
   exact wgc.enter h4 h5 h7 g32 hb (wgc.lp _ _ _ _ _ hat)
 ·cases ht
def r7 (s:ByteArray):Bool:=Nat.ble s.size 7
noncomputable def rGcd7.sp:HSpec
 |[.agg ⟨[.bool na,.string sa]⟩,.agg ⟨[.bool nb,.string sb]⟩],[]=>some (vld na sa&&(vld nb sb&&(r7 sa&&r7 sb)),iI (gI (vl na sa) (vl nb sb)),[])
 |_,_=>none
theorem small7_abs {n:Bool} {s:ByteArray} (h:vld n s=true):small7 false s=((vl n s).natAbs:Int):=by
 have h1:vld false s=true:=by
  obtain ⟨⟨l⟩⟩:=s
  cases l with
  |nil=>rfl
  |cons b r=>exact h
 unfold small7
 rw [h1,vl_abs]; rfl
theorem wrg7.run (na:Bool) (sa:ByteArray) (nb:Bool) (sb:ByteArray):xfn Tryz.prog ⟨[(99,Valid.sp),(105,rsmall.sp),(53,rOf.sp),(106,digits.sp)],[],[]⟩ [(0,wgc.t)] 10 Tryz.f100 [.agg ⟨[.bool na,.string sa]⟩,.agg ⟨[.bool nb,.string sb]⟩] []=
 bif !vld na sa then some ((Value.agg ⟨[Value.bool false,Value.string (⟨#[]⟩:ByteArray)]⟩,[])) else bif !vld nb sb then some ((Value.agg ⟨[Value.bool false,Value.string (⟨#[]⟩:ByteArray)]⟩,[])) else bif decide (((sa.size:Nat):Int)≤7) then bif decide (((sb.size:Nat):Int)≤7) then bif decide (0≤bif sa.size.ble 7 then small7 false sa else 0)&&decide (0≤bif sb.size.ble 7 then small7 false sb else 0) then bif decide (-9223372036854775808≤gI (bif sa.size.ble 7 then small7 false sa else 0) (bif sb.size.ble 7 then small7 false sb else 0))&&decide (gI (bif sa.size.ble 7 then small7 false sa else 0) (bif sb.size.ble 7 then small7 false sb else 0)≤9223372036854775807) then some ((Value.agg ⟨[Value.bool (decide (gI (bif sa.size.ble 7 then small7 false sa else 0) (bif sb.size.ble 7 then small7 false sb else 0)<0)),Value.string (str (enc (((gI (bif sa.size.ble 7 then small7 false sa else 0) (bif sb.size.ble 7 then small7 false sb else 0)).natAbs:Nat):Int)))]⟩,[])) else none else none else bif sa.size.ble 8589934592 then bif sb.size.ble 8589934592 then bif ((n3 sa:Nat):Int)==0 then none else bif ((n3 sb:Nat):Int)==0 then none else none else none else none else bif sa.size.ble 8589934592 then bif sb.size.ble 8589934592 then bif ((n3 sa:Nat):Int)==0 then none else bif ((n3 sb:Nat):Int)==0 then none else none else none else none:=by kernel_rfl
theorem rGcd7.ok:SOK Tryz.prog 100 rGcd7.sp:=by
 refine sok_of (E:=⟨[(99,Valid.sp),(105,rsmall.sp),(53,rOf.sp),(106,digits.sp)],[],[]⟩) (L:=[(0,wgc.t)]) ⟨specs_cons rValidR.ok (specs_cons rsmall.ok (specs_cons rOf.ok (specs_cons digits.ok specs_nil))),inl_nil,mixed_ok,lps_nil⟩ 10 Tryz.func100 (by decide) rfl (body_loops rfl (loops_cons rfl wgc.lok lsOk_nil)) fun vs bl v bl' h=> ?_
 unfold rGcd7.sp at h
 split at h
 ·rename_i na sa nb sb
  simp only [Option.some.injEq,Prod.mk.injEq,Bool.and_eq_true,r7] at h
  obtain ⟨⟨va,vb,h1,h2⟩,rfl,rfl⟩:=h
  refine ⟨(wrg7.run na sa nb sb).trans ?_,by simp [okV],clo_spec 8 _ rfl,told_blk rfl⟩
  have l1:=Nat.le_of_ble_eq_true h1
  have l2:=Nat.le_of_ble_eq_true h2
  rw [va,vb,h1,h2,dtrue (show ((sa.size:Nat):Int)≤7 by omega),dtrue (show ((sb.size:Nat):Int)≤7 by omega)]
  simp only [Bool.not_true,cond_false,cond_true]
  rw [small7_abs va,small7_abs vb]
  have e:gI ((vl na sa).natAbs:Int) ((vl nb sb).natAbs:Int)=gI (vl na sa) (vl nb sb):=by
   rw [gI_eq,gI_eq,Int.gcd_eq_natAbs_gcd_natAbs,Int.gcd_eq_natAbs_gcd_natAbs,Int.natAbs_natCast,Int.natAbs_natCast]
  simp only [e]
  have g0:=gI_nonneg (vl na sa) (vl nb sb)
  have bd:∀ {n:Bool} {s:ByteArray},s.size≤7→((vl n s).natAbs:Int)<72057594037927936:=fun {n s} hs=>by
   rw [vl_abs]
   have h1:=bv_lt s.data.toList
   have h2:p8 s.data.toList.length≤72057594037927936:=Int.le_trans (p8_mono (show s.data.toList.length≤7 from hs)) (by decide)
   omega
  have b1:=bd (n:=na) l1
  have b2:=bd (n:=nb) l2
  have g1:gI (vl na sa) (vl nb sb)<72057594037927936:=by
   rw [gI_eq]
   by_cases h0:vl na sa=0
   ·rw [h0,Int.gcd_zero_left]; exact b2
   ·have:=Nat.le_of_dvd (by omega) (Int.gcd_dvd_natAbs_left (vl na sa) (vl nb sb)); omega
  rw [dtrue2 (by omega) (by omega),dtrue2 (show -9223372036854775808≤gI (vl na sa) (vl nb sb) by omega) (show gI (vl na sa) (vl nb sb)≤9223372036854775807 by omega)]
  rfl
 ·cases h
end Go.Proofs.YtpejalpgficopaaGreatDoor.G
end
section
namespace Go.Proofs.YtpejalpgficopaaGreatDoor.G
set_option maxRecDepth 100000
open Go Go.Proofs RX
def culetref01_Cmp (n:Bool) (s:ByteArray) (m:Bool) (t:ByteArray):Int:=sgn (bif vld n s&&vld m t then vl n s-vl m t else 0)
def culetref01_Cmp.pre (n:Bool) (s:ByteArray) (m:Bool) (t:ByteArray):Bool:=szOk s&&szOk t
theorem culetref01_Cmp.ok:SOK Tryz.prog 95 (culetref01_Cmp.sp culetref01_Cmp culetref01_Cmp.pre):=by
 refine ⟨rCmpR.ok.enter,fun vs bl v bl' hs=>rCmpR.ok.run vs bl v bl' ?_⟩
 unfold culetref01_Cmp.sp at hs
 split at hs
 ·rw [←hs]; rfl
 ·cases hs
def culetref01_Of (n:Int):Bool×ByteArray:=dI n
def culetref01_Of.pre (n:Int):Bool:=decide (-9223372036854775808≤n)&&decide (n≤9223372036854775807)
theorem culetref01_Of.ok:SOK Tryz.prog 53 (culetref01_Of.sp culetref01_Of culetref01_Of.pre):=by
 refine ⟨rOf.ok.enter,fun vs bl v bl' hs=>rOf.ok.run vs bl v bl' ?_⟩
 unfold culetref01_Of.sp at hs
 split at hs
 ·rw [←hs]; rfl
 ·cases hs
section
variable (n:Bool) (s:ByteArray) (m:Bool) (t:ByteArray)
noncomputable def culetref01_Gcd:Bool×ByteArray:=dI (gI (vl n s) (vl m t))
def culetref01_Gcd.pre:Bool:=vld n s&&(vld m t&&(r7 s&&r7 t))
end
theorem culetref01_Gcd.ok:SOK Tryz.prog 100 (culetref01_Gcd.sp culetref01_Gcd culetref01_Gcd.pre):=by
 refine ⟨rGcd7.ok.enter,fun vs bl v bl' hs=>rGcd7.ok.run vs bl v bl' ?_⟩
 unfold culetref01_Gcd.sp at hs
 split at hs
 ·rw [←hs]; rfl
 ·cases hs
def culetref01_Valid (n:Bool) (s:ByteArray):Bool:=vld n s
theorem culetref01_Valid.ok:SOK Tryz.prog 99 (culetref01_Valid.sp culetref01_Valid):=by
 refine ⟨rValidR.ok.enter,fun vs bl v bl' hs=>rValidR.ok.run vs bl v bl' ?_⟩
 unfold culetref01_Valid.sp at hs
 split at hs
 ·rw [←hs]; rfl
 ·cases hs
def culetref01_Sign (n:Bool) (s:ByteArray):Int:=sgn (bif vld n s then vl n s else 0)
theorem culetref01_Sign.ok:SOK Tryz.prog 101 (culetref01_Sign.sp culetref01_Sign):=by
 refine ⟨rSignR.ok.enter,fun vs bl v bl' hs=>rSignR.ok.run vs bl v bl' ?_⟩
 unfold culetref01_Sign.sp at hs
 split at hs
 ·rw [←hs]; rfl
 ·cases hs
def culetref01_Neg (n:Bool) (s:ByteArray):Bool×ByteArray:=dI (bif vld n s then -vl n s else 0)
theorem culetref01_Neg.ok:SOK Tryz.prog 59 (culetref01_Neg.sp culetref01_Neg):=by
 refine ⟨rNegR.ok.enter,fun vs bl v bl' hs=>rNegR.ok.run vs bl v bl' ?_⟩
 unfold culetref01_Neg.sp at hs
 split at hs
 ·rw [←hs]; rfl
 ·cases hs
def culetref01_Abs (n:Bool) (s:ByteArray):Bool×ByteArray:=dI (bif vld n s then ((vl n s).natAbs:Int) else 0)
theorem culetref01_Abs.ok:SOK Tryz.prog 96 (culetref01_Abs.sp culetref01_Abs):=by
 refine ⟨rAbsR.ok.enter,fun vs bl v bl' hs=>rAbsR.ok.run vs bl v bl' ?_⟩
 unfold culetref01_Abs.sp at hs
 split at hs
 ·rw [←hs]; rfl
 ·cases hs
def culetref02_words (n0:Bool) (s0:ByteArray) (n1:Bool) (s1:ByteArray) (n2:Bool) (s2:ByteArray) (n3:Bool) (s3:ByteArray) (n4:Bool) (s4:ByteArray):Int×Int×Int×Int×Int×Bool:=(bif wdok n0 s0 then vl n0 s0 else 0,bif wdok n0 s0&&wdok n1 s1 then vl n1 s1 else 0,bif wdok n0 s0&&wdok n1 s1&&wdok n2 s2 then vl n2 s2 else 0,bif wdok n0 s0&&wdok n1 s1&&wdok n2 s2&&wdok n3 s3 then vl n3 s3 else 0,bif wdok n0 s0&&wdok n1 s1&&wdok n2 s2&&wdok n3 s3&&wdok n4 s4 then vl n4 s4 else 0,(wdok n0 s0&&wdok n1 s1&&wdok n2 s2&&wdok n3 s3&&wdok n4 s4))
theorem culetref02_words.ok:SOK Tryz.prog 54 (culetref02_words.sp culetref02_words):=by
 refine ⟨words.ok.enter,fun vs bl v bl' hs=>words.ok.run vs bl v bl' ?_⟩
 unfold culetref02_words.sp at hs
 split at hs
 ·rw [←hs]; rfl
 ·cases hs
noncomputable def culetref02_gcd (x0 x1 x2 x3 x4:Int):Int:=(gI (gI (gI (gI (gI 0 x0) x1) x2) x3) x4)
def culetref02_gcd.pre (x0 x1 x2 x3 x4:Int):Bool:=wgok x0&&wgok x1&&wgok x2&&wgok x3&&wgok x4
theorem culetref02_gcd.ok:SOK Tryz.prog 98 (culetref02_gcd.sp culetref02_gcd culetref02_gcd.pre):=by
 refine ⟨rgcd.ok.enter,fun vs bl v bl' hs=>rgcd.ok.run vs bl v bl' ?_⟩
 unfold culetref02_gcd.sp at hs
 split at hs
 ·rw [←hs]; rfl
 ·cases hs
end Go.Proofs.YtpejalpgficopaaGreatDoor.G
end
section
namespace Go.Proofs.YtpejalpgficopaaGreatDoor.G
set_option maxRecDepth 100000
open Go Go.Proofs Go.RowKit RX
section
variable {R:Type} (BP:Int→(Bool×ByteArray)) (BO:Int→Bool) (C7:TF5 (Int×Int×Int×Int×Int×Bool)) (CJ:Int→Int→Int→Int→Int→(Int)) (CH:Int→Int→Int→Int→Int→Bool) (CS:Bool→ByteArray→(Bool)) (D3:Bool→ByteArray→Bool→ByteArray→(Bool×ByteArray)) (D0:Bool→ByteArray→Bool→ByteArray→Bool) (EF:Bool→ByteArray→(Int)) (A3:Bool) (A2:ByteArray) (A6:Bool) (A5:ByteArray) (A4:Bool) (A9:ByteArray) (A8:Bool) (A7:ByteArray) (AB:Bool) (AA:ByteArray)
noncomputable def culetref02_Valid.K (k:(Bool)→Option R):Option R:=
 let t0:=C7 A3 A2 A6 A5 A4 A9 A8 A7 AB AA
 bif t0.2.2.2.2.2 then bif decide (t0.2.2.2.2.1>0) then
 let t1:=CH t0.1 t0.2.1 t0.2.2.1 t0.2.2.2.1 t0.2.2.2.2.1
 bif t1 then
 let t2:=CJ t0.1 t0.2.1 t0.2.2.1 t0.2.2.2.1 t0.2.2.2.2.1
 k (t2==1) else none else k (false) else
 let t3:=CS A3 A2
 bif !t3 then k (false) else
 let t4:=D0 false {data:= #[]} A3 A2
 bif t4 then
 let t5:=CS A6 A5
 bif !t5 then k (false) else
 let t6:=D3 false {data:= #[]} A3 A2
 let t7:=D0 t6.1 t6.2 A6 A5
 bif t7 then
 let t8:=CS A4 A9
 bif !t8 then k (false) else
 let t9:=D3 t6.1 t6.2 A6 A5
 let t10:=D0 t9.1 t9.2 A4 A9
 bif t10 then
 let t11:=CS A8 A7
 bif !t11 then k (false) else
 let t12:=D3 t9.1 t9.2 A4 A9
 let t13:=D0 t12.1 t12.2 A8 A7
 bif t13 then
 let t14:=CS AB AA
 bif t14 then
 let t15:=EF AB AA
 bif decide (t15>0) then
 let t16:=D3 t12.1 t12.2 A8 A7
 let t17:=D0 t16.1 t16.2 AB AA
 bif t17 then
 let t18:=BO 1
 bif t18 then
 let t19:=D3 t16.1 t16.2 AB AA
 let t20:=BP 1
 k (t19.1==t20.1&&t19.2.toList==t20.2.toList) else none else none else k (false) else k (false) else none else none else none else none
theorem culetref02_Valid.run:xfn Tryz.prog ⟨[(53,culetref01_Of.sp BP BO),(54,culetref02_words.sp C7),(98,culetref02_gcd.sp CJ CH),(99,culetref01_Valid.sp CS),(100,culetref01_Gcd.sp D3 D0),(101,culetref01_Sign.sp EF)],[],[]⟩ [] 60 Tryz.f52 [.agg ⟨[.bool A3,.string A2,.bool A6,.string A5,.bool A4,.string A9,.bool A8,.string A7,.bool AB,.string AA]⟩] []=culetref02_Valid.K BP BO C7 CJ CH CS D3 D0 EF A3 A2 A6 A5 A4 A9 A8 A7 AB AA (fun r=>some (.bool r,[])):=by kernel_rfl
noncomputable def culetref02_Valid.o:Option (Bool):=culetref02_Valid.K culetref01_Of culetref01_Of.pre culetref02_words culetref02_gcd culetref02_gcd.pre culetref01_Valid culetref01_Gcd culetref01_Gcd.pre culetref01_Sign A3 A2 A6 A5 A4 A9 A8 A7 AB AA some
noncomputable def culetref02_Valid.pre:Bool:=(culetref02_Valid.o A3 A2 A6 A5 A4 A9 A8 A7 AB AA).isSome
noncomputable def culetref02_Valid:Bool:=(culetref02_Valid.o A3 A2 A6 A5 A4 A9 A8 A7 AB AA).getD default
theorem culetref02_Valid.nat (k:(Bool)→Option R):culetref02_Valid.K BP BO C7 CJ CH CS D3 D0 EF A3 A2 A6 A5 A4 A9 A8 A7 AB AA k=(culetref02_Valid.K BP BO C7 CJ CH CS D3 D0 EF A3 A2 A6 A5 A4 A9 A8 A7 AB AA some).bind k:=by
 simp only [culetref02_Valid.K,bcond,Option.bind_some,Option.bind_none]
end
theorem r_Gcd_dI (a b:Int):culetref01_Gcd (dI a).1 (dI a).2 (dI b).1 (dI b).2=dI (gI a b):=by simp [culetref01_Gcd]
theorem r_Gcd_pre {a b:Int} (ha:Bd 7 a) (hb:Bd 7 b):culetref01_Gcd.pre (dI a).1 (dI a).2 (dI b).1 (dI b).2=true:=by
 have h1:=bd_size ha
 have h2:=bd_size hb
 simp [culetref01_Gcd.pre,r7,Nat.ble_eq_true_of_le h1,Nat.ble_eq_true_of_le h2]
theorem gI_bd {k:Nat} {a b:Int} (ha:Bd k a) (hb:Bd k b):Bd k (gI a b):=by rw [gI_eq]; exact gcd_bd (j:=k) ha hb
theorem gI_dvd (a b:Int):gI a b∣a∧gI a b∣b:=by rw [gI_eq]; exact ⟨Int.gcd_dvd_left a b,Int.gcd_dvd_right a b⟩
theorem dvd_gI {x a b:Int} (ha:x∣a) (hb:x∣b):x∣gI a b:=by rw [gI_eq]; exact Int.dvd_coe_gcd ha hb
def g5 (c0 c1 c2 c3 d:Int):Prop:=gI (gI (gI (gI (gI 0 c0) c1) c2) c3) d=1
theorem g5_gg {c0 c1 c2 c3 d:Int} (h:gI (gI (gI (gI (gI 0 c0) c1) c2) c3) d=1):gg c0 c1 c2 c3 d=1:=by
 obtain ⟨d4,d0,d1,d2,d3⟩:=gg_dvd c0 c1 c2 c3 d
 have h1:=dvd_gI (dvd_gI (dvd_gI (dvd_gI (dvd_gI (Int.dvd_zero _) d0) d1) d2) d3) d4
 rw [h] at h1
 have h2:=gg_nonneg c0 c1 c2 c3 d
 have h3:=Int.natAbs_dvd_natAbs.2 h1
 have h4:=Nat.le_of_dvd (by decide) h3
 have h5:gg c0 c1 c2 c3 d≠0:=fun h0=>by rw [h0] at h1; have:=Int.zero_dvd.1 h1; omega
 have h6:(1:Int).natAbs=1:=rfl
 omega
theorem vld_dI_of {n:Bool} {s:ByteArray} (h:vld n s=true):∃c,n=(dI c).1∧s=(dI c).2∧vl n s=c:=⟨vl n s,by rw [dI_vl h],by rw [dI_vl h],rfl⟩
theorem bd400 {c : Int} (h : c.natAbs ≤ 400) : Bd 2 c := by unfold Bd; have:p8 2=65536:=by decide
                                                            omega
theorem culetref02_Valid.spec {n0 n1 n2 n3 n4:Bool} {s0 s1 s2 s3 s4:ByteArray} (h0:vld n0 s0=true→(vl n0 s0).natAbs≤400) (h1:vld n1 s1=true→(vl n1 s1).natAbs≤400) (h2:vld n2 s2=true→(vl n2 s2).natAbs≤400) (h3:vld n3 s3=true→(vl n3 s3).natAbs≤400) (h4:vld n4 s4=true→vl n4 s4≤400):
  ∃b,culetref02_Valid.o n0 s0 n1 s1 n2 s2 n3 s3 n4 s4=some b∧(b=true→∃q:Q,(n0,s0,n1,s1,n2,s2,n3,s3,n4,s4)=C5 q∧q.ok=true∧q.Bd 2∧q.d.natAbs≤400∧q.c0.natAbs≤400∧q.c1.natAbs≤400∧q.c2.natAbs≤400∧q.c3.natAbs≤400):=by
 have fin:∀ {c0 c1 c2 c3 d:Int},c0.natAbs≤400→c1.natAbs≤400→c2.natAbs≤400→c3.natAbs≤400→0<d→d≤400→gI (gI (gI (gI (gI 0 c0) c1) c2) c3) d=1→∃q:Q,((dI c0).1,(dI c0).2,(dI c1).1,(dI c1).2,(dI c2).1,(dI c2).2,(dI c3).1,(dI c3).2,(dI d).1,(dI d).2)=C5 q∧q.ok=true∧q.Bd 2∧q.d.natAbs≤400∧q.c0.natAbs≤400∧q.c1.natAbs≤400∧q.c2.natAbs≤400∧q.c3.natAbs≤400:=fun {c0 c1 c2 c3 d} b0 b1 b2 b3 p b4 hg=>
  ⟨⟨c0,c1,c2,c3,d⟩,rfl,by
   show (decide (0<d)&&gg c0 c1 c2 c3 d==1)=true
   rw [g5_gg hg,decide_eq_true p]; rfl,⟨bd400 b0,bd400 b1,bd400 b2,bd400 b3,bd400 (show d.natAbs≤400 by omega)⟩,by show d.natAbs≤400; omega,b0,b1,b2,b3⟩
 simp only [culetref02_Valid.o,culetref02_Valid.K,culetref02_words,culetref01_Valid,culetref01_Sign]
 rcases Bool.eq_false_or_eq_true (wdok n0 s0&&wdok n1 s1&&wdok n2 s2&&wdok n3 s3&&wdok n4 s4) with hw|hw
 ·simp only [Bool.and_eq_true] at hw
  obtain ⟨⟨⟨⟨w0,w1⟩,w2⟩,w3⟩,w4⟩:=hw
  have v:∀ {n:Bool} {s:ByteArray},wdok n s=true→vld n s=true:=fun h=>by
   simp only [wdok,Bool.and_eq_true] at h; exact h.2
  have h0:=h0 (v w0)
  have h1:=h1 (v w1)
  have h2:=h2 (v w2)
  have h3:=h3 (v w3)
  have h4:=h4 (v w4)
  obtain ⟨c0,rfl,rfl,e0⟩:=vld_dI_of (v w0)
  obtain ⟨c1,rfl,rfl,e1⟩:=vld_dI_of (v w1)
  obtain ⟨c2,rfl,rfl,e2⟩:=vld_dI_of (v w2)
  obtain ⟨c3,rfl,rfl,e3⟩:=vld_dI_of (v w3)
  obtain ⟨d,rfl,rfl,e4⟩:=vld_dI_of (v w4)
  simp only [vl_dI] at h0 h1 h2 h3 h4
  simp only [w0,w1,w2,w3,w4,vl_dI,Bool.and_self,cond_true]
  by_cases p:d>0
  ·have wg:∀ {x:Int},x.natAbs≤400→wgok x=true:=fun h=>by
    simp only [wgok,Bool.and_eq_true,decide_eq_true_eq]; omega
   rw [decide_eq_true p,cond_true]
   have hp:culetref02_gcd.pre c0 c1 c2 c3 d=true:=by
    simp only [culetref02_gcd.pre,wg h0,wg h1,wg h2,wg h3,wg (show d.natAbs≤400 by omega),Bool.and_self]
   rw [hp,cond_true]
   refine ⟨_,rfl,fun hb=> ?_⟩
   exact fin h0 h1 h2 h3 p h4 (of_decide_eq_true (by simpa [culetref02_gcd] using hb))
  ·rw [decide_eq_false p,cond_false]
   exact ⟨false,rfl,fun h=>by cases h⟩
 ·simp only [hw,cond_false]
  cases v0:vld n0 s0 with
  |false=>exact ⟨false,rfl,fun h=>by cases h⟩
  |true=>
  have h0:=h0 v0
  obtain ⟨c0,rfl,rfl,e0⟩:=vld_dI_of v0
  simp only [vl_dI,Bool.not_true,cond_false] at h0 ⊢
  have z0:(false,({data:= #[]} :ByteArray))=dI 0:=rfl
  have y1:culetref01_Gcd false {data:= #[]} (dI c0).1 (dI c0).2=dI (gI 0 c0):=r_Gcd_dI 0 c0
  have p1:culetref01_Gcd.pre false {data:= #[]} (dI c0).1 (dI c0).2=true:=r_Gcd_pre (a:=0) (Bd.zero 7) ((bd400 h0).mono (by omega))
  have b1:Bd 2 (gI 0 c0):=gI_bd (Bd.zero 2) (bd400 h0)
  rw [p1,cond_true]
  cases v1:vld n1 s1 with
  |false=>exact ⟨false,rfl,fun h=>by cases h⟩
  |true=>
  have h1:=h1 v1
  obtain ⟨c1,rfl,rfl,e1⟩:=vld_dI_of v1
  simp only [vl_dI,Bool.not_true,cond_false] at h1 ⊢
  rw [y1,r_Gcd_dI,r_Gcd_pre (b1.mono (by omega)) ((bd400 h1).mono (by omega)),cond_true]
  have b2:Bd 2 (gI (gI 0 c0) c1):=gI_bd b1 (bd400 h1)
  cases v2:vld n2 s2 with
  |false=>exact ⟨false,rfl,fun h=>by cases h⟩
  |true=>
  have h2:=h2 v2
  obtain ⟨c2,rfl,rfl,e2⟩:=vld_dI_of v2
  simp only [vl_dI,Bool.not_true,cond_false] at h2 ⊢
  rw [r_Gcd_dI,r_Gcd_pre (b2.mono (by omega)) ((bd400 h2).mono (by omega)),cond_true]
  have b3:Bd 2 (gI (gI (gI 0 c0) c1) c2):=gI_bd b2 (bd400 h2)
  cases v3:vld n3 s3 with
  |false=>exact ⟨false,rfl,fun h=>by cases h⟩
  |true=>
  have h3:=h3 v3
  obtain ⟨c3,rfl,rfl,e3⟩:=vld_dI_of v3
  simp only [vl_dI,Bool.not_true,cond_false] at h3 ⊢
  rw [r_Gcd_dI,r_Gcd_pre (b3.mono (by omega)) ((bd400 h3).mono (by omega)),cond_true]
  have b4:Bd 2 (gI (gI (gI (gI 0 c0) c1) c2) c3):=gI_bd b3 (bd400 h3)
  by_cases v4:vld n4 s4=false
  ·simp only [v4,cond_false]; exact ⟨false,rfl,fun h=>by cases h⟩
  have v4:vld n4 s4=true:=by simpa using v4
  have h4:=h4 v4
  obtain ⟨d,rfl,rfl,e4⟩:=vld_dI_of v4
  simp only [vl_dI] at h4
  simp only [v4,vl_dI,cond_true]
  by_cases p:d>0
  ·rw [decide_eq_true (show sgn d>0 by unfold sgn; rw [if_neg (by omega),if_neg (by omega)]; decide),cond_true,r_Gcd_dI,r_Gcd_pre (b4.mono (by omega)) ((bd400 (show d.natAbs≤400 by omega)).mono (by omega)),cond_true,show culetref01_Of.pre 1=true from rfl,cond_true,show culetref01_Of 1=dI 1 from rfl,eq_dI]
   exact ⟨_,rfl,fun hb=>fin h0 h1 h2 h3 p h4 (by simpa using hb)⟩
  ·rw [decide_eq_false (show ¬sgn d>0 by unfold sgn; split; decide; rw [if_pos (by omega)]; decide),cond_false]
   exact ⟨false,rfl,fun h=>by cases h⟩
theorem culetref02_Valid.ok:SOK Tryz.prog 52 (culetref02_Valid.sp culetref02_Valid culetref02_Valid.pre):=by
 refine sok_of (E:=⟨[(53,culetref01_Of.sp culetref01_Of culetref01_Of.pre),(54,culetref02_words.sp culetref02_words),(98,culetref02_gcd.sp culetref02_gcd culetref02_gcd.pre),(99,culetref01_Valid.sp culetref01_Valid),(100,culetref01_Gcd.sp culetref01_Gcd culetref01_Gcd.pre),(101,culetref01_Sign.sp culetref01_Sign)],[],[]⟩) (L:=[]) ⟨(specs_cons culetref01_Of.ok (specs_cons culetref02_words.ok (specs_cons culetref02_gcd.ok (specs_cons culetref01_Valid.ok (specs_cons culetref01_Gcd.ok (specs_cons culetref01_Sign.ok specs_nil)))))),inl_nil,mixed_ok,lps_nil⟩ 60 Tryz.func52 (by decide) rfl no_loops fun vs bl v bl' h=> ?_
 unfold culetref02_Valid.sp at h
 split at h
 ·rename_i A3 A2 A6 A5 A4 A9 A8 A7 AB AA
  simp only [Option.some.injEq,Prod.mk.injEq] at h
  obtain ⟨hp,rfl,rfl⟩:=h
  have hr:=culetref02_Valid.run culetref01_Of culetref01_Of.pre culetref02_words culetref02_gcd culetref02_gcd.pre culetref01_Valid culetref01_Gcd culetref01_Gcd.pre culetref01_Sign A3 A2 A6 A5 A4 A9 A8 A7 AB AA
  rw [culetref02_Valid.nat] at hr
  obtain ⟨r,h2⟩:=Option.isSome_iff_exists.1 (hp:(culetref02_Valid.o A3 A2 A6 A5 A4 A9 A8 A7 AB AA).isSome=true)
  have h3:culetref02_Valid A3 A2 A6 A5 A4 A9 A8 A7 AB AA=r:=by unfold culetref02_Valid; rw [h2]; rfl
  have h4:culetref02_Valid.K culetref01_Of culetref01_Of.pre culetref02_words culetref02_gcd culetref02_gcd.pre culetref01_Valid culetref01_Gcd culetref01_Gcd.pre culetref01_Sign A3 A2 A6 A5 A4 A9 A8 A7 AB AA some=some r:=h2
  rw [h4,Option.bind_some] at hr
  rw [h3]
  exact ⟨hr,by simp [okV,Nat.blt],clo_spec 8 _ (by kernel_rfl),told_blk (by kernel_rfl)⟩
 ·cases h
section
variable {R:Type} (B9:TF5 (Bool)) (B8:TF5 Bool) (BP:Int→(Bool×ByteArray)) (BO:Int→Bool) (D4:Bool→ByteArray→Bool→ByteArray→(Int)) (D1:Bool→ByteArray→Bool→ByteArray→Bool) (E0:Bool→ByteArray→(Bool×ByteArray)) (A3:Bool) (A2:ByteArray) (A6:Bool) (A5:ByteArray) (A4:Bool) (A9:ByteArray) (A8:Bool) (A7:ByteArray) (AB:Bool) (AA:ByteArray)
noncomputable def culetref02_Few.K (k:(Bool)→Option R):Option R:=
 let t0:=BO 400
 bif t0 then
 let t1:=BP 400
 let t2:=D1 AB AA t1.1 t1.2
 bif t2 then
 let t3:=D4 AB AA t1.1 t1.2
 bif decide (t3>0) then k (false) else
 let t4:=E0 A3 A2
 let t5:=D1 t4.1 t4.2 t1.1 t1.2
 bif t5 then
 let t6:=D4 t4.1 t4.2 t1.1 t1.2
 bif decide (t6>0) then k (false) else
 let t7:=E0 A6 A5
 let t8:=D1 t7.1 t7.2 t1.1 t1.2
 bif t8 then
 let t9:=D4 t7.1 t7.2 t1.1 t1.2
 bif decide (t9>0) then k (false) else
 let t10:=E0 A4 A9
 let t11:=D1 t10.1 t10.2 t1.1 t1.2
 bif t11 then
 let t12:=D4 t10.1 t10.2 t1.1 t1.2
 bif decide (t12>0) then k (false) else
 let t13:=E0 A8 A7
 let t14:=D1 t13.1 t13.2 t1.1 t1.2
 bif t14 then
 let t15:=D4 t13.1 t13.2 t1.1 t1.2
 bif decide (t15>0) then k (false) else
 let t16:=B8 A3 A2 A6 A5 A4 A9 A8 A7 AB AA
 bif t16 then
 let t17:=B9 A3 A2 A6 A5 A4 A9 A8 A7 AB AA
 k (t17) else none else none else none else none else none else none else none
theorem culetref02_Few.run:xfn Tryz.prog ⟨[(52,culetref02_Valid.sp B9 B8),(53,culetref01_Of.sp BP BO),(95,culetref01_Cmp.sp D4 D1),(96,culetref01_Abs.sp E0)],[],[]⟩ [] 60 Tryz.f50 [.agg ⟨[.bool A3,.string A2,.bool A6,.string A5,.bool A4,.string A9,.bool A8,.string A7,.bool AB,.string AA]⟩] []=culetref02_Few.K B9 B8 BP BO D4 D1 E0 A3 A2 A6 A5 A4 A9 A8 A7 AB AA (fun r=>some (.bool r,[])):=by kernel_rfl
noncomputable def culetref02_Few.o:Option (Bool):=culetref02_Few.K culetref02_Valid culetref02_Valid.pre culetref01_Of culetref01_Of.pre culetref01_Cmp culetref01_Cmp.pre culetref01_Abs A3 A2 A6 A5 A4 A9 A8 A7 AB AA some
noncomputable def culetref02_Few.pre:Bool:=(culetref02_Few.o A3 A2 A6 A5 A4 A9 A8 A7 AB AA).isSome
noncomputable def culetref02_Few:Bool:=(culetref02_Few.o A3 A2 A6 A5 A4 A9 A8 A7 AB AA).getD default
theorem culetref02_Few.nat (k:(Bool)→Option R):culetref02_Few.K B9 B8 BP BO D4 D1 E0 A3 A2 A6 A5 A4 A9 A8 A7 AB AA k=(culetref02_Few.K B9 B8 BP BO D4 D1 E0 A3 A2 A6 A5 A4 A9 A8 A7 AB AA some).bind k:=by
 simp only [culetref02_Few.K,bcond,Option.bind_some,Option.bind_none]
end
theorem r_Cmp400 {n:Bool} {s:ByteArray} (h:s.size≤8589934592):culetref01_Cmp.pre n s (dI 400).1 (dI 400).2=true:=by
 have h1:szOk (dI 400).2=true:=bd_szOk (k:=2) (by unfold Bd; decide) (by omega)
 simp [culetref01_Cmp.pre,szOk,Nat.ble_eq_true_of_le h] at h1 ⊢
 exact h1
theorem sgn_le {z:Int} (h:¬sgn z>0):z≤0:=by
 unfold sgn at h
 split at h
 ·omega
 ·split at h<;>omega
theorem culetref02_Few.spec {n0 n1 n2 n3 n4:Bool} {s0 s1 s2 s3 s4:ByteArray} (z0:s0.size≤8589934592) (z1:s1.size≤8589934592) (z2:s2.size≤8589934592) (z3:s3.size≤8589934592) (z4:s4.size≤8589934592):
  ∃b,culetref02_Few.o n0 s0 n1 s1 n2 s2 n3 s3 n4 s4=some b∧(b=true→∃q:Q,(n0,s0,n1,s1,n2,s2,n3,s3,n4,s4)=C5 q∧q.ok=true∧q.Bd 2∧q.d.natAbs≤400∧q.c0.natAbs≤400∧q.c1.natAbs≤400∧q.c2.natAbs≤400∧q.c3.natAbs≤400):=by
 have ab :∀ {n:Bool} {s:ByteArray},s.size≤8589934592→culetref01_Cmp.pre (culetref01_Abs n s).1 (culetref01_Abs n s).2 (dI 400).1 (dI 400).2=true∧(¬culetref01_Cmp (culetref01_Abs n s).1 (culetref01_Abs n s).2 (dI 400).1 (dI 400).2>0→vld n s=true→(vl n s).natAbs≤400):=fun {n s} hz=>by
  unfold culetref01_Abs
  cases hv:vld n s with
  | false=>
   refine ⟨r_Cmp400 ?_,fun _ h=>by cases h⟩
   exact Nat.le_trans (bd_size (k:=0) (Bd.zero 0)) (by omega)
  | true=>
   simp only [cond_true]
   refine ⟨r_Cmp400 ?_,fun h _=> ?_⟩
   ·have:Bd s.size ((vl n s).natAbs:Int):=by
     unfold Bd
     rw [Int.natAbs_natCast,vl_abs]
     exact bv_lt s.data.toList
    exact Nat.le_trans (bd_size this) hz
   ·have:=sgn_le (by simpa [culetref01_Cmp] using h)
    omega
 have dd:¬culetref01_Cmp n4 s4 (dI 400).1 (dI 400).2>0→vld n4 s4=true→vl n4 s4≤400:=fun h hv=>by
  have:=sgn_le (by simpa [culetref01_Cmp,hv] using h)
  omega
 have F:∃b,some false=some b∧(b=true→∃q:Q,(n0,s0,n1,s1,n2,s2,n3,s3,n4,s4)=C5 q∧q.ok=true∧q.Bd 2∧q.d.natAbs≤400∧q.c0.natAbs≤400∧q.c1.natAbs≤400∧q.c2.natAbs≤400∧q.c3.natAbs≤400):=⟨false,rfl,fun h=>by cases h⟩
 simp only [culetref02_Few.o,culetref02_Few.K,show culetref01_Of.pre 400=true from rfl,show culetref01_Of 400=dI 400 from rfl,cond_true,r_Cmp400 z4,(ab z0).1,(ab z1).1,(ab z2).1,(ab z3).1]
 by_cases c4:culetref01_Cmp n4 s4 (dI 400).1 (dI 400).2>0
 ·rw [decide_eq_true c4,cond_true]; exact F
 rw [decide_eq_false c4,cond_false]
 by_cases c0:culetref01_Cmp (culetref01_Abs n0 s0).1 (culetref01_Abs n0 s0).2 (dI 400).1 (dI 400).2>0
 ·rw [decide_eq_true c0,cond_true]; exact F
 rw [decide_eq_false c0,cond_false]
 by_cases c1:culetref01_Cmp (culetref01_Abs n1 s1).1 (culetref01_Abs n1 s1).2 (dI 400).1 (dI 400).2>0
 ·rw [decide_eq_true c1,cond_true]; exact F
 rw [decide_eq_false c1,cond_false]
 by_cases c2:culetref01_Cmp (culetref01_Abs n2 s2).1 (culetref01_Abs n2 s2).2 (dI 400).1 (dI 400).2>0
 ·rw [decide_eq_true c2,cond_true]; exact F
 rw [decide_eq_false c2,cond_false]
 by_cases c3:culetref01_Cmp (culetref01_Abs n3 s3).1 (culetref01_Abs n3 s3).2 (dI 400).1 (dI 400).2>0
 ·rw [decide_eq_true c3,cond_true]; exact F
 rw [decide_eq_false c3,cond_false]
 obtain ⟨b,e,hb⟩:=culetref02_Valid.spec ((ab z0).2 c0) ((ab z1).2 c1) ((ab z2).2 c2) ((ab z3).2 c3) (dd c4)
 have e1:culetref02_Valid.pre n0 s0 n1 s1 n2 s2 n3 s3 n4 s4=true:=isSome_of e
 have e2:culetref02_Valid n0 s0 n1 s1 n2 s2 n3 s3 n4 s4=b:=getD_of e
 rw [e1,cond_true,e2]
 exact ⟨b,rfl,hb⟩
theorem culetref02_Few.ok:SOK Tryz.prog 50 (culetref02_Few.sp culetref02_Few culetref02_Few.pre):=by
 refine sok_of (E:=⟨[(52,culetref02_Valid.sp culetref02_Valid culetref02_Valid.pre),(53,culetref01_Of.sp culetref01_Of culetref01_Of.pre),(95,culetref01_Cmp.sp culetref01_Cmp culetref01_Cmp.pre),(96,culetref01_Abs.sp culetref01_Abs)],[],[]⟩) (L:=[]) ⟨(specs_cons culetref02_Valid.ok (specs_cons culetref01_Of.ok (specs_cons culetref01_Cmp.ok (specs_cons culetref01_Abs.ok specs_nil)))),inl_nil,mixed_ok,lps_nil⟩ 60 Tryz.func50 (by decide) rfl no_loops fun vs bl v bl' h=> ?_
 unfold culetref02_Few.sp at h
 split at h
 ·rename_i A3 A2 A6 A5 A4 A9 A8 A7 AB AA
  simp only [Option.some.injEq,Prod.mk.injEq] at h
  obtain ⟨hp,rfl,rfl⟩:=h
  have hr:=culetref02_Few.run culetref02_Valid culetref02_Valid.pre culetref01_Of culetref01_Of.pre culetref01_Cmp culetref01_Cmp.pre culetref01_Abs A3 A2 A6 A5 A4 A9 A8 A7 AB AA
  rw [culetref02_Few.nat] at hr
  obtain ⟨r,h2⟩:=Option.isSome_iff_exists.1 (hp:(culetref02_Few.o A3 A2 A6 A5 A4 A9 A8 A7 AB AA).isSome=true)
  have h3:culetref02_Few A3 A2 A6 A5 A4 A9 A8 A7 AB AA=r:=by unfold culetref02_Few; rw [h2]; rfl
  have h4:culetref02_Few.K culetref02_Valid culetref02_Valid.pre culetref01_Of culetref01_Of.pre culetref01_Cmp culetref01_Cmp.pre culetref01_Abs A3 A2 A6 A5 A4 A9 A8 A7 AB AA some=some r:=h2
  rw [h4,Option.bind_some] at hr
  rw [h3]
  exact ⟨hr,by simp [okV,Nat.blt],clo_spec 8 _ (by kernel_rfl),told_blk (by kernel_rfl)⟩
 ·cases h
end Go.Proofs.YtpejalpgficopaaGreatDoor.G
end
section
namespace Go.Proofs.YtpejalpgficopaaGreatDoor.G
set_option maxRecDepth 100000
open Go Go.Proofs RX
def mx (x y:Int):Int:=if y>x then y else x
end Go.Proofs.YtpejalpgficopaaGreatDoor.G
end
section
namespace RX
open Go Go.RowKit
def namesV:Nat→Value→List Nat
 |0,_=>[]
 | n+1,v=>
  match v with
  | .pointer (some ⟨b,_,none⟩)=>[b]
  | .slice (some ⟨b,_,none⟩) _ _=>[b]
  | .agg ⟨cs⟩=>cs.foldr (fun c l=>namesV n c++l) []
  | .tuple ⟨cs⟩=>cs.foldr (fun c l=>namesV n c++l) []
  | .func _ ⟨f⟩ ⟨c⟩=>f.foldr (fun c l=>namesV n c++l) (c.foldr (fun c l=>namesV n c++l) [])
  | .iface _ v=>namesV n v
  |_=>[]
def fromN (m:Nat):List Nat→List Nat
 |[]=>[]
 |x::r=>bif Nat.ble m x then x::fromN m r else fromN m r
theorem mem_fromN {m x:Nat} :∀ {l:List Nat},x∈fromN m l→m≤x∧x∈l
 |[],h=>by simp [fromN] at h
 | y ::r,h=>by
  simp only [fromN] at h
  cases hb:Nat.ble m y with
  | true=>
   rw [hb] at h
   simp only [cond_true,List.mem_cons] at h
   rcases h with rfl|h
   ·exact ⟨Nat.le_of_ble_eq_true hb,by simp⟩
   ·exact ⟨(mem_fromN h).1,by simp [(mem_fromN h).2]⟩
  | false=>
   rw [hb] at h
   exact ⟨(mem_fromN h).1,by simp [(mem_fromN h).2]⟩
theorem nodup_fromN {m:Nat} :∀ {l:List Nat},l.Nodup→(fromN m l).Nodup
 |[],_=>by simp [fromN]
 | y::r,h=>by
  simp only [List.nodup_cons] at h
  simp only [fromN]
  cases hb:Nat.ble m y with
  |true=>simp only [cond_true,List.nodup_cons]; exact ⟨fun hm=>h.1 (mem_fromN hm).2,nodup_fromN h.2⟩
  |false=>exact nodup_fromN h.2
def sg (m:Nat) (rn:List Nat) (i:Nat):Nat:=bif Nat.blt i m then i else m+idx i rn
def okM (m:Nat) (rn:List Nat) (i:Nat):Bool:=Nat.blt i m||memN i rn
theorem rho_sg {m:Nat} {rn:List Nat} {i:Nat} (h:okM m rn i=true):rho m rn (sg m rn i)=i:=by
 unfold okM at h
 unfold sg
 cases hb:Nat.blt i m with
 | true=>
  have:i<m:=by simpa [Nat.blt_eq] using hb
  simp [rho,this]
 | false=>
  rw [hb] at h
  simp only [Bool.false_or] at h
  have:=idx_get (memN_spec.1 h)
  simp only [cond_false,rho]
  rw [if_neg (by omega),List.getD_eq_getElem?_getD,show m+idx i rn-m=idx i rn from by omega,this]
  rfl
def okW (p:Nat→Bool):Nat→Value→Bool
 |0,_=>false
 | n+1,v=>
  match v with
  | .bool _| .int _ _| .float _ _| .complex _ _ _| .string _| .nilFunc| .nilIface=>true
  | .pointer none=>true
  | .pointer (some ⟨b,_,none⟩)=>p b
  | .slice none _ _=>true
  | .slice (some ⟨b,_,none⟩) _ _=>p b
  | .agg ⟨cs⟩=>cs.all (okW p n)
  | .tuple ⟨cs⟩=>cs.all (okW p n)
  | .func _ ⟨f⟩ ⟨c⟩=>f.all (okW p n)&&c.all (okW p n)
  | .iface _ v=>okW p n v
  |_=>false
theorem okW_comp {p:Nat→Bool} {g h k:Nat→Nat} (e:∀i,p i=true→g (h i)=k i):∀(n:Nat) (v:Value),okW p n v=true→ren g (ren h v)=ren k v:=by
 intro n
 induction n with
 |zero=>intro v hv; simp [okW] at hv
 | succ n ih=>
  have hl:∀l:List Value,l.all (okW p n)=true→(l.map (ren h)).map (ren g)=l.map (ren k):=fun l hl=>by
   rw [List.all_eq_true] at hl
   rw [List.map_map]
   exact List.map_congr_left fun v hv=>ih v (hl v hv)
  intro v hv
  unfold okW at hv
  split at hv
  all_goals try simp only [ren_bool,ren_int,ren_string,ren_nilFunc,ren_nilIface,ren_nilptr,ren_nilslice]
  ·simp [ren]
  ·simp [ren]
  ·simp [e _ hv]
  ·simp [e _ hv]
  ·rw [ren_agg,ren_agg,ren_agg,hl _ hv]
  ·rw [ren_tuple,ren_tuple,ren_tuple,hl _ hv]
  ·simp only [Bool.and_eq_true] at hv
   rw [ren_func,ren_func,ren_func,hl _ hv.1,hl _ hv.2]
  ·rw [ren_iface,ren_iface,ren_iface,ih _ hv]
  ·simp at hv
def self (P:Program) (E:Env) (L:List (Nat×LSpec)) (n:Nat) (fn:Func):HSpec:=fun vs bl=>
 bif vs.all (okV (fun m=>Nat.blt m bl.length) 8) then
  match execFn P E L (hs P E n).lf (hs P E n).cf fn vs (enum bl 0) bl.length (fun v H _=>some (v,H)) with
  | some (v,H)=>
   (match firstB H 0 bl.length,getB H (fromN bl.length (dedup (namesV 8 v))) with
   | some l,some l2=>
    bif okW (okM bl.length (fromN bl.length (dedup (namesV 8 v)))) 8 v&&l.all Blk.clo&&l2.all Blk.clo then some (true,ren (sg bl.length (fromN bl.length (dedup (namesV 8 v)))) v,l++l2) else none
   |_,_=>none)
  |none=>none
 else none
theorem self_ok {P:Program} {E:Env} {L:List (Nat×LSpec)} (hE:EnvOk P E) (n:Nat) {f:FuncId} {fn:Func} (hf:P.funcs[f]? =some fn) (hn:fn.name≠ "runtime.NumGoroutine") (hb:fn.body.isSome=true) (hL:∀c,fn.body=some c→LsOk P L c):SOK P f (self P E L n fn):=by
 refine ⟨⟨fn,hf,hn,hb⟩,fun vs bl v bl' hs hcl g w hmem hinj htab hnt=> ?_⟩
 unfold self at hs
 cases hargs0:vs.all (okV (fun m=>Nat.blt m bl.length) 8) with
 |false=>rw [hargs0] at hs; cases hs
 |true=>
 rw [hargs0] at hs
 simp only [cond_true] at hs
 rw [List.all_eq_true] at hargs0
 split at hs
 rotate_left
 ·cases hs
 rename_i v0 H0 hrun
 split at hs
 rotate_left
 ·cases hs
 rename_i l l2 hl hl2
 generalize hrn:fromN bl.length (dedup (namesV 8 v0))=rn at hs hl2
 have hnod:rn.Nodup:=hrn▸nodup_fromN (nodup_dedup _)
 have hbig:∀x∈rn,bl.length≤x:=fun x hx=>by subst hrn; exact (mem_fromN hx).1
 cases hck:okW (okM bl.length rn) 8 v0&&l.all Blk.clo&&l2.all Blk.clo with
 |false=>rw [hck] at hs; cases hs
 |true=>
 rw [hck] at hs
 simp only [cond_true,Option.some.injEq,Prod.mk.injEq,true_and] at hs
 obtain ⟨rfl,rfl⟩:=hs
 simp only [Bool.and_eq_true] at hck
 obtain ⟨⟨hok,hc1⟩,hc2⟩:=hck
 have hcb:∀b∈l++l2,∀c∈b.cells,Clo c:=fun b hb=>by
  rw [List.mem_append] at hb
  exact hb.elim (told_blk hc1 b) (told_blk hc2 b)
 have bnd:∀u∈vs,Bnd bl.length u:=fun u hu g g' e=>okV_spec (fun m hm=>e m (by simpa [Nat.blt_eq] using hm)) 8 u (hargs0 u hu)
 have lk:∀m b,look (enum bl 0) m=some b→bl[m]? =some b:=fun m b h=>by
  rw [look_enum] at h
  simpa using h
 have hr:HRel w (fun k=>∃i,i<bl.length∧k=g i) g (enum bl 0) bl.length w:=by
  refine ⟨fun m b hm=> ?_,fun m b hm=> ?_,fun m b hm=> ?_,fun m k b c hm hk e=> ?_,fun m b hm=> ?_,Keep.refl w _,htab,fun m b hm=>hnt m (List.getElem?_eq_some_iff.1 (lk m b hm)).1⟩
  ·exact (List.getElem?_eq_some_iff.1 (lk m b hm)).1
  ·exact fun c hc=>(hcl b (List.mem_of_getElem? (lk m b hm)) c hc).bnd _
  ·rw [hmem m b (lk m b hm),map_clo (hcl b (List.mem_of_getElem? (lk m b hm)))]
  ·exact hinj m k (List.getElem?_eq_some_iff.1 (lk m b hm)).1 (List.getElem?_eq_some_iff.1 (lk k c hk)).1 e
  ·exact .inr ⟨m,(List.getElem?_eq_some_iff.1 (lk m b hm)).1,rfl⟩
 refine (execFn_sound (N:=fun _=>True) hE (hs_lf hE n) (hs_cf hE n) hf hL trivial hrun hr bnd).mono fun e w' ⟨v',g',H',nx',he,hk,hag,hle,hr',hbv⟩=> ?_
 simp only [Option.some.injEq,Prod.mk.injEq] at hk
 obtain ⟨rfl,rfl⟩:=hk
 obtain ⟨h1,h2⟩:=firstB_get hl
 obtain ⟨h3,h4⟩:=getB_get hl2
 have hlook:∀i,bl.length≤i→i<(l++l2).length→∃x b,rn[i-bl.length]? =some x∧l2[i-bl.length]? =some b∧look H' x=some b∧rho bl.length rn i=x:=fun i hi hi2=>by
  have hi3:i-bl.length<l2.length:=by simp only [List.length_append] at hi2; omega
  obtain ⟨x,hx1,hx2⟩:=h4 _ _ (List.getElem?_eq_getElem hi3)
  refine ⟨x,_,hx1,List.getElem?_eq_getElem hi3,hx2,?_⟩
  unfold rho
  rw [if_neg (by omega),List.getD_eq_getElem?_getD,hx1]
  rfl
 refine ⟨fun i=>g' (rho bl.length rn i),fun i hi=> ?_,?_,fun i b hi=> ?_,fun i hi hi2=> ?_,fun i j hi hi2 hj hj2 e=> ?_,hr'.keep⟩
 ·show g' (rho bl.length rn i)=g i
  unfold rho
  rw [if_pos hi,hag i hi]
 ·rw [he,okW_comp (g:=fun i=>g' (rho bl.length rn i)) (h:=sg bl.length rn) (k:=g') (fun i hi=>by show g' (rho bl.length rn (sg bl.length rn i))=g' i; rw [rho_sg hi]) 8 v' hok]
 ·have hb0:=hcb b (List.mem_of_getElem? hi)
  show w'.heap[g' (rho bl.length rn i)]? =_
  by_cases hlt:i<bl.length
  ·rw [List.getElem?_append_left (by omega)] at hi
   have:=hr'.mem i b (by have:=h2 i b hi; rwa [Nat.zero_add] at this)
   unfold rho
   rw [if_pos hlt,this,map_clo hb0]
  ·obtain ⟨x,b',hx1,hx2,hx3,hx4⟩:=hlook i (by omega) (List.getElem?_eq_some_iff.1 hi).1
   rw [List.getElem?_append_right (by omega),h1,hx2] at hi
   injection hi with hi
   subst hi
   rw [hx4,hr'.mem x _ hx3,map_clo hb0]
 ·obtain ⟨x,b',hx1,hx2,hx3,hx4⟩:=hlook i hi hi2
  show w.heap.size≤g' (rho bl.length rn i)
  rw [hx4]
  rcases hr'.own x b' hx3 with ho|⟨j,hj,ho⟩
  ·exact ho
  ·exfalso
   have hlj:∃b,look H' j=some b:=⟨l[j]'(by omega),by have:=h2 j _ (List.getElem?_eq_getElem (by omega)); rwa [Nat.zero_add] at this⟩
   obtain ⟨b2,hb2⟩:=hlj
   have:=hr'.inj x j b' b2 hx3 hb2 (by rw [ho,hag j hj])
   have:=hbig x (List.mem_of_getElem? hx1)
   omega
 ·obtain ⟨x,b1,hx1,hx2,hx3,hx4⟩:=hlook i hi hi2
  obtain ⟨y,b2,hy1,hy2,hy3,hy4⟩:=hlook j hj hj2
  simp only [hx4,hy4] at e
  have:=hr'.inj x y b1 b2 hx3 hy3 e
  subst this
  obtain ⟨p1,q1⟩:=List.getElem?_eq_some_iff.1 hx1
  obtain ⟨p2,q2⟩:=List.getElem?_eq_some_iff.1 hy1
  have:=nodup_inj hnod p1 p2 (q1.trans q2.symm)
  omega
end RX
end
section
namespace Go.Proofs.YtpejalpgficopaaGreatDoor.G
set_option maxRecDepth 100000
open Go Go.Proofs RX
mutual
def veq:Nat→Value→Value→Bool
 |_,.int k a,.int j b=>decide (k=j)&&ieq a b
 |_,.bool a,.bool b=>a==b
 |_,.string a,.string b=>a.data.toList==b.data.toList
 |n+1,.agg a,.agg b=>veqs n a.toList b.toList
 |_,_,_=>false
def veqs:Nat→List Value→List Value→Bool
 |_,[],[]=>true
 |n+1,a::r,b::s=>veq n a b&&veqs n r s
 |_,_,_=>false
end
theorem veq_both:∀(n:Nat),(∀a b,veq n a b=true→a=b)∧(∀a b,veqs n a b=true→a=b)
  | n =>by
    have hl :∀m,(∀j,j<m→∀a b,veq j a b=true→a=b)→(∀j,j<m→∀a b,veqs j a b=true→a=b)→∀a b,veqs m a b=true→a=b:=fun m h1 h2 a b h=>by
      cases a with
      | nil=>cases b with
        |nil=>rfl
        |cons b s=>cases m<;>simp [veqs] at h
      | cons a r=>cases b with
        |nil=>cases m<;>simp [veqs] at h
        | cons b s=>cases m with
          |zero=>simp [veqs] at h
          | succ m=>
            rw [veqs,Bool.and_eq_true] at h
            rw [h1 m (by omega) _ _ h.1,h2 m (by omega) _ _ h.2]
    have hv:∀m,(∀j,j<m→∀a b,veqs j a b=true→a=b)→∀a b,veq m a b=true→a=b:=fun m h1 a b h=>by
      cases a<;>cases b<;>try (first|(cases m<;>simp [veq] at h; done))
      case bool.bool a b=>cases m<;>(simp only [veq,beq_iff_eq] at h; rw [h])
      case int.int k a j b=>
        have:(decide (k=j)&&ieq a b)=true:=by cases m<;>exact h
        rw [Bool.and_eq_true,decide_eq_true_iff,ieq_eq] at this
        rw [this.1,this.2]
      case string.string a b=>
        have:(a.data.toList==b.data.toList)=true:=by cases m<;>exact h
        rw [beq_iff_eq] at this
        obtain ⟨⟨a⟩⟩:=a
        obtain ⟨⟨b⟩⟩:=b
        simp only at this
        rw [this]
      case agg.agg a b=>
        cases m with
        |zero=>simp [veq] at h
        | succ m=>
          have:=h1 m (by omega) _ _ h
          obtain ⟨a⟩:=a
          obtain ⟨b⟩:=b
          simp only at this
          rw [this]
    have key:∀m,∀j,j<m→(∀a b,veq j a b=true→a=b)∧(∀a b,veqs j a b=true→a=b):=fun m=>by
      induction m with
      |zero=>intro j hj; omega
      | succ m ih=>
        intro j hj
        by_cases hjm:j<m
        · exact ih j hjm
        · have:j=m:=by omega
          subst this
          exact ⟨hv j (fun i hi=>(ih i hi).2),hl j (fun i hi=>(ih i hi).1) (fun i hi=>(ih i hi).2)⟩
    exact key (n+1) n (by omega)
def tabS:List (List Value×Value)→HSpec
 |[],_,_=>none
 |p::r,vs,[]=>bif veqs 60 p.1 vs then some (true,p.2,[]) else tabS r vs []
 |_::_,_,_::_=>none
theorem tabS_sub {s:HSpec} :∀ {l:List (List Value×Value)},(∀p∈l,s p.1 []=some (true,p.2,[]))→∀vs bl v bl',tabS l vs bl=some (true,v,bl')→s vs bl=some (true,v,bl')
 |[],_,vs,bl,v,bl',h=>by simp [tabS] at h
 | p ::r,hl,vs,bl,v,bl',h=>by
  cases bl with
  |cons b bl=>simp [tabS] at h
  | nil=>
   unfold tabS at h
   cases hv:veqs 60 p.1 vs with
   | true=>
    rw [hv] at h
    simp only [cond_true,Option.some.injEq,Prod.mk.injEq,true_and] at h
    obtain ⟨rfl,rfl⟩:=h
    rw [←(veq_both 60).2 _ _ hv]
    exact hl p (List.mem_cons_self ..)
   | false=>
    rw [hv] at h
    exact tabS_sub (fun q hq=>hl q (List.mem_cons_of_mem _ hq)) vs [] v bl' h
theorem tabS_ok {P:Program} {f:FuncId} {s:HSpec} (hs:SOK P f s) {l:List (List Value×Value)} (h:∀p∈l,s p.1 []=some (true,p.2,[])):SOK P f (tabS l):=
 ⟨hs.enter,fun vs bl v bl' ht=>hs.run vs bl v bl' (tabS_sub h vs bl v bl' ht)⟩
abbrev cq (x:Q):Value:= .agg ⟨[.bool (dI x.c0).1,.string (dI x.c0).2,.bool (dI x.c1).1,.string (dI x.c1).2,.bool (dI x.c2).1,.string (dI x.c2).2,.bool (dI x.c3).1,.string (dI x.c3).2,.bool (dI x.d).1,.string (dI x.d).2]⟩
theorem bd1_of {n:Int} (h:n.natAbs≤255):Bd 1 n:=by
 have:p8 1=256:=by decide
 unfold Bd
 omega
theorem bd8 {n:Int} (h:n.natAbs≤255):(qof n).Bd 1:=qof_bd (bd1_of h) (Nat.le_refl 1)
theorem awMul1 {x y:Q} {k:Nat} (hx:x.Bd k) (hy:y.Bd k) (hk:k≤PRM):field_Mul.sp field_Mul field_Mul.pre [cq x,cq y] []=some (true,cq (qmulv x y),[]):=by
 have h1:=field_Mul.ps hx hy hk hk
 have h2:=field_Mul.es hx hy hk hk
 change _=C5 (qmulv x y) at h2
 simp only [field_Mul.sp,h1,h2,C5]
theorem awAdd1 {x y:Q} {k:Nat} (hx:x.Bd k) (hy:y.Bd k) (hk:k≤PRM) (ok:(x.ok&&y.ok)=true):field_Add.sp field_Add field_Add.pre [cq x,cq y] []=some (true,cq (qadd x y),[]):=by
 have h1:=field_Add.ps hx hy hk hk
 have h2:=field_Add.es hx hy hk hk
 rw [ok] at h2
 change _=C5 (qadd x y) at h2
 simp only [field_Add.sp,h1,h2,C5]
theorem awOf1 {n:Int} (h: -9223372036854775808≤n) (h':n≤9223372036854775807):field_Of.sp field_Of field_Of.pre [.int .i64 n] []=some (true,cq (qof n),[]):=by
 have h1:=field_Of.ps h h'
 have h2:=field_Of.es h h'
 change _=C5 (qof n) at h2
 simp only [field_Of.sp,h1,h2,C5]
theorem awVal1 {x:Q} {k:Nat} (hx:x.Bd k) (hk:k≤LIM):field_Valid.sp field_Valid field_Valid.pre [cq x] []=some (true,.bool x.ok,[]):=by
 have h1:=field_Valid.ps hx hk
 have h2:=field_Valid.es hx hk
 simp only [field_Valid.sp,h1,h2]
theorem awQuo1 {x y:Q} (hx:x.Bd 1) (hy:y.Bd 1):direction_quotient.sp direction_quotient direction_quotient.pre [cq x,cq y] []=some (true,.tuple ⟨[.agg ⟨[.int .i64 (dquot x y).1,.int .i64 (dquot x y).2.1]⟩,.int .i64 (dquot x y).2.2]⟩,[]):=by
 have h1:=direction_quotient.ps hx hy (by omega) (by unfold PRM; omega)
 have h2:=direction_quotient.es hx hy (by omega) (by unfold PRM; omega)
 simp only [direction_quotient.sp,h1,h2]
theorem dq3:dquot (qof 3) (qof 25)=(10066329,10066330,0):=by kernel_rfl
theorem dq0:dquot (qof 0) (qof 25)=(0,0,0):=by kernel_rfl
theorem dq4:dquot (qof 4) (qof 25)=(13421772,13421773,0):=by kernel_rfl
def awMul:HSpec:=tabS [([cq (qof 3),cq (qof 3)],cq (qof 9)),([cq (qof 0),cq (qof 0)],cq (qof 0)),([cq (qof 4),cq (qof 4)],cq (qof 16))]
theorem awMul.ok:SOK Tryz.prog 110 awMul:=tabS_ok field_Mul.ok fun p hp=>by
 simp only [List.mem_cons,List.not_mem_nil,or_false] at hp
 rcases hp with rfl|rfl|rfl
 ·exact (awMul1 (bd8 (by decide)) (bd8 (by decide)) (by unfold PRM; omega)).trans rfl
 ·exact (awMul1 (bd8 (by decide)) (bd8 (by decide)) (by unfold PRM; omega)).trans rfl
 ·exact (awMul1 (bd8 (by decide)) (bd8 (by decide)) (by unfold PRM; omega)).trans rfl
def awAdd:HSpec:=tabS [([cq (qof 9),cq (qof 0)],cq (qof 9)),([cq (qof 9),cq (qof 16)],cq (qof 25))]
theorem awAdd.ok:SOK Tryz.prog 112 awAdd:=tabS_ok field_Add.ok fun p hp=>by
 simp only [List.mem_cons,List.not_mem_nil,or_false] at hp
 rcases hp with rfl|rfl
 ·exact (awAdd1 (bd8 (by decide)) (bd8 (by decide)) (by unfold PRM; omega) rfl).trans rfl
 ·exact (awAdd1 (bd8 (by decide)) (bd8 (by decide)) (by unfold PRM; omega) rfl).trans rfl
def awOf:HSpec:=tabS [([.int .i64 0],cq (qof 0))]
theorem awOf.ok:SOK Tryz.prog 114 awOf:=tabS_ok field_Of.ok fun p hp=>by
 simp only [List.mem_cons,List.not_mem_nil,or_false] at hp
 subst hp
 exact awOf1 (by decide) (by decide)
def awVal:HSpec:=tabS [([cq (qof 3)],.bool true),([cq (qof 0)],.bool true),([cq (qof 4)],.bool true),([cq (qof 1)],.bool true)]
theorem awVal.ok:SOK Tryz.prog 109 awVal:=tabS_ok field_Valid.ok fun p hp=>by
 simp only [List.mem_cons,List.not_mem_nil,or_false] at hp
 rcases hp with rfl|rfl|rfl|rfl
 ·exact (awVal1 (bd8 (by decide)) (by unfold LIM; omega)).trans rfl
 ·exact (awVal1 (bd8 (by decide)) (by unfold LIM; omega)).trans rfl
 ·exact (awVal1 (bd8 (by decide)) (by unfold LIM; omega)).trans rfl
 ·exact (awVal1 (bd8 (by decide)) (by unfold LIM; omega)).trans rfl
def awQuo:HSpec:=tabS [([cq (qof 3),cq (qof 25)],.tuple ⟨[.agg ⟨[.int .i64 10066329,.int .i64 10066330]⟩,.int .i64 0]⟩),([cq (qof 0),cq (qof 25)],.tuple ⟨[.agg ⟨[.int .i64 0,.int .i64 0]⟩,.int .i64 0]⟩),([cq (qof 4),cq (qof 25)],.tuple ⟨[.agg ⟨[.int .i64 13421772,.int .i64 13421773]⟩,.int .i64 0]⟩)]
theorem awQuo.ok:SOK Tryz.prog 63 awQuo:=tabS_ok direction_quotient.ok fun p hp=>by
 simp only [List.mem_cons,List.not_mem_nil,or_false] at hp
 rcases hp with rfl|rfl|rfl
 ·exact (awQuo1 (bd8 (by decide)) (bd8 (by decide))).trans (by rw [dq3])
 ·exact (awQuo1 (bd8 (by decide)) (bd8 (by decide))).trans (by rw [dq0])
 ·exact (awQuo1 (bd8 (by decide)) (bd8 (by decide))).trans (by rw [dq4])
def awVec:HSpec:=vvsp awVal
theorem awVec.ok:SOK Tryz.prog 83 awVec:=vvsok awVal.ok
end Go.Proofs.YtpejalpgficopaaGreatDoor.G
end
section
namespace Go.Proofs.YtpejalpgficopaaGreatDoor.G
set_option maxRecDepth 100000
open Go Go.Proofs Go.RowKit RX
noncomputable def y153:HSpec:=self Tryz.prog ⟨[],[(153,Tryz.f153),(153,Tryz.f153)],[]⟩ [] 60 Tryz.f153
theorem y153_ok:SOK Tryz.prog 153 y153:=self_ok ⟨specs_nil,(inl_cons ⟨Tryz.func153,by decide,rfl⟩ (inl_cons ⟨Tryz.func153,by decide,rfl⟩ inl_nil)),mixed_ok,lps_nil⟩ 60 Tryz.func153 (by decide) rfl no_loops
noncomputable def y102:HSpec:=self Tryz.prog ⟨[(153,y153)],[(102,Tryz.f102),(102,Tryz.f102)],[]⟩ [] 60 Tryz.f102
theorem y102_ok:SOK Tryz.prog 102 y102:=self_ok ⟨(specs_cons y153_ok specs_nil),(inl_cons ⟨Tryz.func102,by decide,rfl⟩ (inl_cons ⟨Tryz.func102,by decide,rfl⟩ inl_nil)),mixed_ok,lps_nil⟩ 60 Tryz.func102 (by decide) rfl no_loops
noncomputable def y53:HSpec:=self Tryz.prog ⟨[(102,y102)],[(53,Tryz.f53),(53,Tryz.f53)],[]⟩ [] 60 Tryz.f53
theorem y53_ok:SOK Tryz.prog 53 y53:=self_ok ⟨(specs_cons y102_ok specs_nil),(inl_cons ⟨Tryz.func53,by decide,rfl⟩ (inl_cons ⟨Tryz.func53,by decide,rfl⟩ inl_nil)),mixed_ok,lps_nil⟩ 60 Tryz.func53 (by decide) rfl no_loops
noncomputable def y13:HSpec:=self Tryz.prog ⟨[(53,y53)],[(13,Tryz.f13),(13,Tryz.f13)],[]⟩ [] 60 Tryz.f13
theorem y13_ok:SOK Tryz.prog 13 y13:=self_ok ⟨(specs_cons y53_ok specs_nil),(inl_cons ⟨Tryz.func13,by decide,rfl⟩ (inl_cons ⟨Tryz.func13,by decide,rfl⟩ inl_nil)),mixed_ok,lps_nil⟩ 60 Tryz.func13 (by decide) rfl no_loops
noncomputable def y156:HSpec:=self Tryz.prog ⟨[(114,awOf)],[(156,Tryz.f156),(156,Tryz.f156)],[]⟩ [] 60 Tryz.f156
theorem y156_ok:SOK Tryz.prog 156 y156:=self_ok ⟨(specs_cons awOf.ok specs_nil),(inl_cons ⟨Tryz.func156,by decide,rfl⟩ (inl_cons ⟨Tryz.func156,by decide,rfl⟩ inl_nil)),mixed_ok,lps_nil⟩ 60 Tryz.func156 (by decide) rfl no_loops
noncomputable def y108:HSpec:=self Tryz.prog ⟨[(156,y156)],[(108,Tryz.f108),(108,Tryz.f108)],[]⟩ [] 60 Tryz.f108
theorem y108_ok:SOK Tryz.prog 108 y108:=self_ok ⟨(specs_cons y156_ok specs_nil),(inl_cons ⟨Tryz.func108,by decide,rfl⟩ (inl_cons ⟨Tryz.func108,by decide,rfl⟩ inl_nil)),mixed_ok,lps_nil⟩ 60 Tryz.func108 (by decide) rfl no_loops
noncomputable def y60:HSpec:=self Tryz.prog ⟨[(83,awVec),(108,y108),(109,awVal)],[(60,Tryz.f60),(60,Tryz.f60)],[]⟩ [] 60 Tryz.f60
theorem y60_ok:SOK Tryz.prog 60 y60:=self_ok ⟨(specs_cons awVec.ok (specs_cons y108_ok (specs_cons awVal.ok specs_nil))),(inl_cons ⟨Tryz.func60,by decide,rfl⟩ (inl_cons ⟨Tryz.func60,by decide,rfl⟩ inl_nil)),mixed_ok,lps_nil⟩ 60 Tryz.func60 (by decide) rfl no_loops
noncomputable def y61:HSpec:=self Tryz.prog ⟨[(83,awVec),(110,awMul),(112,awAdd)],[(111,Tryz.f111),(111,Tryz.f111)],[]⟩ [] 60 Tryz.f61
theorem y61_ok:SOK Tryz.prog 61 y61:=self_ok ⟨(specs_cons awVec.ok (specs_cons awMul.ok (specs_cons awAdd.ok specs_nil))),(inl_cons ⟨Tryz.func111,by decide,rfl⟩ (inl_cons ⟨Tryz.func111,by decide,rfl⟩ inl_nil)),mixed_ok,lps_nil⟩ 60 Tryz.func61 (by decide) rfl no_loops
noncomputable def y62:HSpec:=self Tryz.prog ⟨[],[(62,Tryz.f62),(62,Tryz.f62)],[]⟩ [] 60 Tryz.f62
theorem y62_ok:SOK Tryz.prog 62 y62:=self_ok ⟨specs_nil,(inl_cons ⟨Tryz.func62,by decide,rfl⟩ (inl_cons ⟨Tryz.func62,by decide,rfl⟩ inl_nil)),mixed_ok,lps_nil⟩ 60 Tryz.func62 (by decide) rfl no_loops
noncomputable def y64:HSpec:=self Tryz.prog ⟨[],[(64,Tryz.f64),(64,Tryz.f64)],[]⟩ [] 60 Tryz.f64
theorem y64_ok:SOK Tryz.prog 64 y64:=self_ok ⟨specs_nil,(inl_cons ⟨Tryz.func64,by decide,rfl⟩ (inl_cons ⟨Tryz.func64,by decide,rfl⟩ inl_nil)),mixed_ok,lps_nil⟩ 60 Tryz.func64 (by decide) rfl no_loops
noncomputable def y18:HSpec:=self Tryz.prog ⟨[(60,y60),(61,y61),(62,y62),(63,awQuo),(64,y64)],[(18,Tryz.f18),(18,Tryz.f18)],[]⟩ [] 60 Tryz.f18
theorem y18_ok:SOK Tryz.prog 18 y18:=self_ok ⟨(specs_cons y60_ok (specs_cons y61_ok (specs_cons y62_ok (specs_cons awQuo.ok (specs_cons y64_ok specs_nil))))),(inl_cons ⟨Tryz.func18,by decide,rfl⟩ (inl_cons ⟨Tryz.func18,by decide,rfl⟩ inl_nil)),mixed_ok,lps_nil⟩ 60 Tryz.func18 (by decide) rfl no_loops
noncomputable def y65:HSpec:=self Tryz.prog ⟨[],[(65,Tryz.f65),(65,Tryz.f65)],[]⟩ [] 60 Tryz.f65
theorem y65_ok:SOK Tryz.prog 65 y65:=self_ok ⟨specs_nil,(inl_cons ⟨Tryz.func65,by decide,rfl⟩ (inl_cons ⟨Tryz.func65,by decide,rfl⟩ inl_nil)),mixed_ok,lps_nil⟩ 60 Tryz.func65 (by decide) rfl no_loops
noncomputable def y117:HSpec:=self Tryz.prog ⟨[],[(117,Tryz.f117),(117,Tryz.f117)],[]⟩ [] 60 Tryz.f117
theorem y117_ok:SOK Tryz.prog 117 y117:=self_ok ⟨specs_nil,(inl_cons ⟨Tryz.func117,by decide,rfl⟩ (inl_cons ⟨Tryz.func117,by decide,rfl⟩ inl_nil)),mixed_ok,lps_nil⟩ 60 Tryz.func117 (by decide) rfl no_loops
noncomputable def y118:HSpec:=self Tryz.prog ⟨[],[(118,Tryz.f118),(118,Tryz.f118)],[]⟩ [] 60 Tryz.f118
theorem y118_ok:SOK Tryz.prog 118 y118:=self_ok ⟨specs_nil,(inl_cons ⟨Tryz.func118,by decide,rfl⟩ (inl_cons ⟨Tryz.func118,by decide,rfl⟩ inl_nil)),mixed_ok,lps_nil⟩ 60 Tryz.func118 (by decide) rfl no_loops
noncomputable def y119:HSpec:=self Tryz.prog ⟨[],[(119,Tryz.f119),(119,Tryz.f119)],[]⟩ [] 60 Tryz.f119
theorem y119_ok:SOK Tryz.prog 119 y119:=self_ok ⟨specs_nil,(inl_cons ⟨Tryz.func119,by decide,rfl⟩ (inl_cons ⟨Tryz.func119,by decide,rfl⟩ inl_nil)),mixed_ok,lps_nil⟩ 60 Tryz.func119 (by decide) rfl no_loops
noncomputable def y120:HSpec:=self Tryz.prog ⟨[(119,y119)],[(120,Tryz.f120),(120,Tryz.f120)],[]⟩ [] 60 Tryz.f120
theorem y120_ok:SOK Tryz.prog 120 y120:=self_ok ⟨(specs_cons y119_ok specs_nil),(inl_cons ⟨Tryz.func120,by decide,rfl⟩ (inl_cons ⟨Tryz.func120,by decide,rfl⟩ inl_nil)),mixed_ok,lps_nil⟩ 60 Tryz.func120 (by decide) rfl no_loops
noncomputable def y67:HSpec:=self Tryz.prog ⟨[(65,y65),(117,y117),(118,y118),(119,y119),(120,y120)],[(67,Tryz.f67),(67,Tryz.f67)],[]⟩ [] 60 Tryz.f67
theorem y67_ok:SOK Tryz.prog 67 y67:=self_ok ⟨(specs_cons y65_ok (specs_cons y117_ok (specs_cons y118_ok (specs_cons y119_ok (specs_cons y120_ok specs_nil))))),(inl_cons ⟨Tryz.func67,by decide,rfl⟩ (inl_cons ⟨Tryz.func67,by decide,rfl⟩ inl_nil)),mixed_ok,lps_nil⟩ 60 Tryz.func67 (by decide) rfl no_loops
noncomputable def y130:HSpec:=self Tryz.prog ⟨[],[(130,Tryz.f130),(130,Tryz.f130)],[]⟩ [] 60 Tryz.f130
theorem y130_ok:SOK Tryz.prog 130 y130:=self_ok ⟨specs_nil,(inl_cons ⟨Tryz.func130,by decide,rfl⟩ (inl_cons ⟨Tryz.func130,by decide,rfl⟩ inl_nil)),mixed_ok,lps_nil⟩ 60 Tryz.func130 (by decide) rfl no_loops
noncomputable def y81:HSpec:=self Tryz.prog ⟨[(65,y65),(118,y118),(130,y130)],[(81,Tryz.f81),(81,Tryz.f81)],[]⟩ [] 60 Tryz.f81
theorem y81_ok:SOK Tryz.prog 81 y81:=self_ok ⟨(specs_cons y65_ok (specs_cons y118_ok (specs_cons y130_ok specs_nil))),(inl_cons ⟨Tryz.func81,by decide,rfl⟩ (inl_cons ⟨Tryz.func81,by decide,rfl⟩ inl_nil)),mixed_ok,lps_nil⟩ 60 Tryz.func81 (by decide) rfl no_loops
noncomputable def y66:HSpec:=self Tryz.prog ⟨[(62,y62),(67,y67),(81,y81)],[(66,Tryz.f66),(66,Tryz.f66)],[]⟩ [] 60 Tryz.f66
theorem y66_ok:SOK Tryz.prog 66 y66:=self_ok ⟨(specs_cons y62_ok (specs_cons y67_ok (specs_cons y81_ok specs_nil))),(inl_cons ⟨Tryz.func66,by decide,rfl⟩ (inl_cons ⟨Tryz.func66,by decide,rfl⟩ inl_nil)),mixed_ok,lps_nil⟩ 60 Tryz.func66 (by decide) rfl no_loops
noncomputable def y129:HSpec:=self Tryz.prog ⟨[(65,y65)],[(129,Tryz.f129),(129,Tryz.f129)],[]⟩ [] 60 Tryz.f129
theorem y129_ok:SOK Tryz.prog 129 y129:=self_ok ⟨(specs_cons y65_ok specs_nil),(inl_cons ⟨Tryz.func129,by decide,rfl⟩ (inl_cons ⟨Tryz.func129,by decide,rfl⟩ inl_nil)),mixed_ok,lps_nil⟩ 60 Tryz.func129 (by decide) rfl no_loops
noncomputable def y122:HSpec:=self Tryz.prog ⟨[(118,y118),(129,y129)],[(122,Tryz.f122),(122,Tryz.f122)],[]⟩ [] 60 Tryz.f122
theorem y122_ok:SOK Tryz.prog 122 y122:=self_ok ⟨(specs_cons y118_ok (specs_cons y129_ok specs_nil)),(inl_cons ⟨Tryz.func122,by decide,rfl⟩ (inl_cons ⟨Tryz.func122,by decide,rfl⟩ inl_nil)),mixed_ok,lps_nil⟩ 60 Tryz.func122 (by decide) rfl no_loops
noncomputable def y123:HSpec:=self Tryz.prog ⟨[(117,y117),(118,y118),(119,y119),(120,y120),(129,y129)],[(123,Tryz.f123),(123,Tryz.f123)],[]⟩ [] 60 Tryz.f123
theorem y123_ok:SOK Tryz.prog 123 y123:=self_ok ⟨(specs_cons y117_ok (specs_cons y118_ok (specs_cons y119_ok (specs_cons y120_ok (specs_cons y129_ok specs_nil))))),(inl_cons ⟨Tryz.func123,by decide,rfl⟩ (inl_cons ⟨Tryz.func123,by decide,rfl⟩ inl_nil)),mixed_ok,lps_nil⟩ 60 Tryz.func123 (by decide) rfl no_loops
noncomputable def y124:HSpec:=self Tryz.prog ⟨[(118,y118),(129,y129)],[(124,Tryz.f124),(124,Tryz.f124)],[]⟩ [] 60 Tryz.f124
theorem y124_ok:SOK Tryz.prog 124 y124:=self_ok ⟨(specs_cons y118_ok (specs_cons y129_ok specs_nil)),(inl_cons ⟨Tryz.func124,by decide,rfl⟩ (inl_cons ⟨Tryz.func124,by decide,rfl⟩ inl_nil)),mixed_ok,lps_nil⟩ 60 Tryz.func124 (by decide) rfl no_loops
noncomputable def y127:HSpec:=self Tryz.prog ⟨[(117,y117),(118,y118),(119,y119),(120,y120),(129,y129)],[(127,Tryz.f127),(127,Tryz.f127)],[]⟩ [] 60 Tryz.f127
theorem y127_ok:SOK Tryz.prog 127 y127:=self_ok ⟨(specs_cons y117_ok (specs_cons y118_ok (specs_cons y119_ok (specs_cons y120_ok (specs_cons y129_ok specs_nil))))),(inl_cons ⟨Tryz.func127,by decide,rfl⟩ (inl_cons ⟨Tryz.func127,by decide,rfl⟩ inl_nil)),mixed_ok,lps_nil⟩ 60 Tryz.func127 (by decide) rfl no_loops
noncomputable def y121:HSpec:=self Tryz.prog ⟨[(62,y62),(122,y122),(123,y123),(124,y124),(127,y127)],[(121,Tryz.f121),(121,Tryz.f121)],[]⟩ [] 60 Tryz.f121
theorem y121_ok:SOK Tryz.prog 121 y121:=self_ok ⟨(specs_cons y62_ok (specs_cons y122_ok (specs_cons y123_ok (specs_cons y124_ok (specs_cons y127_ok specs_nil))))),(inl_cons ⟨Tryz.func121,by decide,rfl⟩ (inl_cons ⟨Tryz.func121,by decide,rfl⟩ inl_nil)),mixed_ok,lps_nil⟩ 60 Tryz.func121 (by decide) rfl no_loops
noncomputable def y68:HSpec:=self Tryz.prog ⟨[(122,y122),(121,y121)],[(68,Tryz.f68),(68,Tryz.f68)],[]⟩ [] 60 Tryz.f68
theorem y68_ok:SOK Tryz.prog 68 y68:=self_ok ⟨(specs_cons y122_ok (specs_cons y121_ok specs_nil)),(inl_cons ⟨Tryz.func68,by decide,rfl⟩ (inl_cons ⟨Tryz.func68,by decide,rfl⟩ inl_nil)),mixed_ok,lps_nil⟩ 60 Tryz.func68 (by decide) rfl no_loops
noncomputable def y69:HSpec:=self Tryz.prog ⟨[(123,y123),(121,y121)],[(69,Tryz.f69),(69,Tryz.f69)],[]⟩ [] 60 Tryz.f69
theorem y69_ok:SOK Tryz.prog 69 y69:=self_ok ⟨(specs_cons y123_ok (specs_cons y121_ok specs_nil)),(inl_cons ⟨Tryz.func69,by decide,rfl⟩ (inl_cons ⟨Tryz.func69,by decide,rfl⟩ inl_nil)),mixed_ok,lps_nil⟩ 60 Tryz.func69 (by decide) rfl no_loops
noncomputable def y70:HSpec:=self Tryz.prog ⟨[(124,y124),(121,y121)],[(70,Tryz.f70),(70,Tryz.f70)],[]⟩ [] 60 Tryz.f70
theorem y70_ok:SOK Tryz.prog 70 y70:=self_ok ⟨(specs_cons y124_ok (specs_cons y121_ok specs_nil)),(inl_cons ⟨Tryz.func70,by decide,rfl⟩ (inl_cons ⟨Tryz.func70,by decide,rfl⟩ inl_nil)),mixed_ok,lps_nil⟩ 60 Tryz.func70 (by decide) rfl no_loops
noncomputable def y20:HSpec:=self Tryz.prog ⟨[(64,y64),(65,y65),(67,y67),(66,y66),(68,y68),(69,y69),(70,y70)],[(20,Tryz.f20),(20,Tryz.f20)],[]⟩ [] 60 Tryz.f20
theorem y20_ok:SOK Tryz.prog 20 y20:=self_ok ⟨(specs_cons y64_ok (specs_cons y65_ok (specs_cons y67_ok (specs_cons y66_ok (specs_cons y68_ok (specs_cons y69_ok (specs_cons y70_ok specs_nil))))))),(inl_cons ⟨Tryz.func20,by decide,rfl⟩ (inl_cons ⟨Tryz.func20,by decide,rfl⟩ inl_nil)),mixed_ok,lps_nil⟩ 60 Tryz.func20 (by decide) rfl no_loops
noncomputable def y49:HSpec:=self Tryz.prog ⟨[(65,y65)],[(49,Tryz.f49),(49,Tryz.f49)],[]⟩ [] 60 Tryz.f49
theorem y49_ok:SOK Tryz.prog 49 y49:=self_ok ⟨(specs_cons y65_ok specs_nil),(inl_cons ⟨Tryz.func49,by decide,rfl⟩ (inl_cons ⟨Tryz.func49,by decide,rfl⟩ inl_nil)),mixed_ok,lps_nil⟩ 60 Tryz.func49 (by decide) rfl no_loops
def culetlaw28_awake.sp:HSpec
 |[],[]=>some (true,.bool true,[])
 |_,_=>none
theorem culetlaw28_awake.run:xfn Tryz.prog ⟨[(13,y13),(18,y18),(20,y20),(49,y49)],[(10,Tryz.f10),(10,Tryz.f10)],[]⟩ [] 60 Tryz.f10 [] []=some (.bool true,[]):=by kernel_rfl
theorem culetlaw28_awake.ok:SOK Tryz.prog 10 culetlaw28_awake.sp:=by
 refine sok_of (E:=⟨[(13,y13),(18,y18),(20,y20),(49,y49)],[(10,Tryz.f10),(10,Tryz.f10)],[]⟩) (L:=[]) ⟨(specs_cons y13_ok (specs_cons y18_ok (specs_cons y20_ok (specs_cons y49_ok specs_nil)))),(inl_cons ⟨Tryz.func10,by decide,rfl⟩ (inl_cons ⟨Tryz.func10,by decide,rfl⟩ inl_nil)),mixed_ok,lps_nil⟩ 60 Tryz.func10 (by decide) rfl no_loops fun vs bl v bl' h=> ?_
 unfold culetlaw28_awake.sp at h
 split at h
 ·simp only [Option.some.injEq,Prod.mk.injEq,true_and] at h
  obtain ⟨rfl,rfl⟩:=h
  exact ⟨culetlaw28_awake.run,by simp [okV],clo_spec 8 _ rfl,told_blk rfl⟩
 ·cases h
end Go.Proofs.YtpejalpgficopaaGreatDoor.G
end
