/- A part of what the law's proof leans on. PACKED BY pack.py of this repo. -/
import Derived.Test.YtphlckkbihmlnaaGreatDoorK13
set_option linter.unusedVariables false
set_option linter.unusedSimpArgs false
set_option linter.unusedSectionVars false
set_option linter.defProp false
set_option maxRecDepth 100000
open Go.IntKind (i64 u64 u32)
section
namespace Go.Proofs.YtphlckkbihmlnaaGreatDoor.G
open Go Go.Proofs RX
noncomputable abbrev we.code:Code:=Jl (Ag Tryz.f91 0) 2
noncomputable abbrev we.ex:=exec (R:=X×List Value×List (Option Blk)) Tryz.prog ⟨[],[],[]⟩ [] (hs Tryz.prog ⟨[],[],[]⟩ 3).lf (hs Tryz.prog ⟨[],[],[]⟩ 3).cf we.code
abbrev we.st (x0 x1 x2 x3 x4 g i a b:Int):St:=⟨gbuild [(1,.pointer (some ⟨0,0,none⟩)),(2,.int .i64 0),(3,.int .i64 g),(4,.int .i64 i),(5,.int .i64 a),(6,.int .i64 b)] 0 28,[(0,.cs [.int .i64 x0,.int .i64 x1,.int .i64 x2,.int .i64 x3,.int .i64 x4] 108)],272⟩
theorem we.rnd (x0 x1 x2 x3 x4 g i a b:Int):we.ex (we.st x0 x1 x2 x3 x4 g i a b) (pick 28 [1,2,3,4,5,6] [0])=
 bif b !=0 then bif b !=0 then RX.lk [1,2,3,4,5,6] [0] .normal (we.st x0 x1 x2 x3 x4 g i b (a.tmod b)) else none else RX.lk [1,2,3,4,5,6] [0] (.exit 2) (we.st x0 x1 x2 x3 x4 g i a b):=by kernel_rfl
theorem we.go {N:Nat→Prop} (x0 x1 x2 x3 x4 g i:Int):∀(n:Nat) (a b:Int),0≤a→0≤b→b≤(n:Int)→Lq Tryz.prog N we.code (we.st x0 x1 x2 x3 x4 g i a b) (.exit 2) (we.st x0 x1 x2 x3 x4 g i (gI a b) 0)
 | n,a,b,ha,hb,hn=>by
  by_cases h0:b=0
  ·subst h0
   rw [HU,Int.gcd_zero_right,show ((a.natAbs:Nat):Int)=a by omega]
   exact .endK (f:=3) ⟨Ac,Ai,Ad,Ah⟩ Be ((we.rnd x0 x1 x2 x3 x4 g i a 0).cf rfl) (fun q=>by cases q) rfl rfl
  ·cases n with
   |zero=>omega
   | succ n=>
    have h1:(b !=0)=true:=Em h0
    have r:=((we.rnd x0 x1 x2 x3 x4 g i a b).ct h1).ct h1
    have m0:=Int.emod_nonneg a h0
    have m1:=Int.emod_lt_of_pos a (show 0<b by omega)
    rw [Int.tmod_eq_emod_of_nonneg ha] at r
    have e:gI b (a%b)=gI a b:=by rw [HU,HU,MP,Int.gcd_comm]
    rw [←e]
    exact .toK (f:=3) ⟨Ac,Ai,Ad,Ah⟩ Be r rfl rfl (we.go x0 x1 x2 x3 x4 g i n b (a%b) hb m0 (by omega))
noncomputable def we.lt (x0 x1 x2 x3 x4 g i a b:Int):LT:= .got (decide (0≤a)&&decide (0≤b)) (.exit 2) (we.st x0 x1 x2 x3 x4 g i (gI a b) 0)
noncomputable def we.t:LSpec:=fun S=>match RX.nth S.tmps 1,RX.nth S.tmps 2,RX.nth S.tmps 3,RX.nth S.tmps 4,RX.nth S.tmps 5,RX.nth S.tmps 6,RX.look S.heap 0 with
 | .pointer (some ⟨0,0,none⟩),.int .i64 z,.int .i64 g,.int .i64 i,.int .i64 a,.int .i64 b,some (.cs [.int .i64 x0,.int .i64 x1,.int .i64 x2,.int .i64 x3,.int .i64 x4] 108)=>bif Nat.beq S.tmps.length 28&&(Nat.beq S.nxt 272&&ieq z 0) then some (we.lt x0 x1 x2 x3 x4 g i a b) else none
 |_,_,_,_,_,_,_=>none
theorem we.lok {N:Nat→Prop} :LOKn Tryz.prog N we.code we.t:=by
 refine Ge fun S lt x' S' ht hat=> ?_
 unfold we.t at ht
 split at ht
 ·rename_i z g i a b x0 x1 x2 x3 x4 h1 h2 h3 h4 h5 h6 g0
  cases hb:Nat.beq S.tmps.length 28&&(Nat.beq S.nxt 272&&ieq z 0) with
  |false=>rw [hb] at ht; cases ht
  | true=>
   rw [hb] at ht
   injection ht with ht
   subst ht
   simp only [zB,HT] at hb
   obtain ⟨hb,hnx,rfl⟩:=hb
   obtain ⟨hc,rfl,rfl⟩:=Fw hat
   simp only [zB,zD] at hc
   exact Lq.into 28 [1,2,3,4,5,6] [0] hb (zE hnx) (by simp only [List.map_cons,List.map_nil,h1,h2,h3,h4,h5,h6]; rfl) (by simp only [List.map_cons,List.map_nil,g0]; rfl) (S2:=we.st x0 x1 x2 x3 x4 g i a b) rfl (we.go x0 x1 x2 x3 x4 g i b.toNat a b hc.1 hc.2 (by omega))
 ·cases ht
noncomputable abbrev wg.code:Code:=Ag Tryz.f91 0
noncomputable abbrev wg.ex:=exec (R:=X×List Value×List (Option Blk)) Tryz.prog ⟨[],[],[]⟩ [(2,we.t)] (hs Tryz.prog ⟨[],[],[]⟩ 5).lf (hs Tryz.prog ⟨[],[],[]⟩ 5).cf wg.code
theorem wg.ls {N:Nat→Prop} :LsOkn Tryz.prog N [(2,we.t)] wg.code:=Fv rfl we.lok Be
abbrev wab (x:Int):Int:=if i64.wrap (0-x)>x then i64.wrap (0-x) else x
abbrev wg0.st (x0 x1 x2 x3 x4 g:Int):St:=⟨gbuild [(1,.pointer (some ⟨0,0,none⟩)),(2,.int .i64 0),(3,.int .i64 g),(4,.int .i64 0)] 0 28,[(0,.cs [.int .i64 x0,.int .i64 x1,.int .i64 x2,.int .i64 x3,.int .i64 x4] 108)],64⟩
abbrev wg1.st (x0 x1 x2 x3 x4 g:Int):St:=⟨gbuild [(1,.pointer (some ⟨0,0,none⟩)),(2,.int .i64 0),(3,.int .i64 g),(4,.int .i64 1)] 0 28,[(0,.cs [.int .i64 x0,.int .i64 x1,.int .i64 x2,.int .i64 x3,.int .i64 x4] 108)],64⟩
abbrev wg2.st (x0 x1 x2 x3 x4 g:Int):St:=⟨gbuild [(1,.pointer (some ⟨0,0,none⟩)),(2,.int .i64 0),(3,.int .i64 g),(4,.int .i64 2)] 0 28,[(0,.cs [.int .i64 x0,.int .i64 x1,.int .i64 x2,.int .i64 x3,.int .i64 x4] 108)],64⟩
abbrev wg3.st (x0 x1 x2 x3 x4 g:Int):St:=⟨gbuild [(1,.pointer (some ⟨0,0,none⟩)),(2,.int .i64 0),(3,.int .i64 g),(4,.int .i64 3)] 0 28,[(0,.cs [.int .i64 x0,.int .i64 x1,.int .i64 x2,.int .i64 x3,.int .i64 x4] 108)],64⟩
abbrev wg4.st (x0 x1 x2 x3 x4 g:Int):St:=⟨gbuild [(1,.pointer (some ⟨0,0,none⟩)),(2,.int .i64 0),(3,.int .i64 g),(4,.int .i64 4)] 0 28,[(0,.cs [.int .i64 x0,.int .i64 x1,.int .i64 x2,.int .i64 x3,.int .i64 x4] 108)],64⟩
abbrev wg5.st (x0 x1 x2 x3 x4 g:Int):St:=⟨gbuild [(1,.pointer (some ⟨0,0,none⟩)),(2,.int .i64 0),(3,.int .i64 g),(4,.int .i64 5)] 0 28,[(0,.cs [.int .i64 x0,.int .i64 x1,.int .i64 x2,.int .i64 x3,.int .i64 x4] 108)],64⟩
def wgok (x:Int):Bool:=decide (-4611686018427387904≤x)&&decide (x≤4611686018427387904)
theorem Io {x:Int} (h:wgok x=true):0≤wab x∧∀g,gI g (wab x)=gI g x:=by
 simp only [wgok,zB,zD] at h
 have w:i64.wrap (0-x)= -x:=by rw [w64 (by omega) (by omega)]; omega
 unfold wab
 rw [w]
 refine ⟨by split<;>omega,fun g=> ?_⟩
 rw [HU,HU]
 split
 ·rw [Int.gcd_neg]
 ·rfl
theorem IQ (a b:Int):0≤gI a b:=by rw [HU]; omega
theorem wg0.rnd (x0 x1 x2 x3 x4 g:Int):wg.ex (wg0.st x0 x1 x2 x3 x4 g) (pick 28 [1,2,3,4] [0])=bif decide (0≤g)&&decide (0≤wab x0) then RX.lk [1,2,3,4] [0] .normal (wg1.st x0 x1 x2 x3 x4 (gI g (wab x0))) else none:=by kernel_rfl
theorem wg1.rnd (x0 x1 x2 x3 x4 g:Int):wg.ex (wg1.st x0 x1 x2 x3 x4 g) (pick 28 [1,2,3,4] [0])=bif decide (0≤g)&&decide (0≤wab x1) then RX.lk [1,2,3,4] [0] .normal (wg2.st x0 x1 x2 x3 x4 (gI g (wab x1))) else none:=by kernel_rfl
theorem wg2.rnd (x0 x1 x2 x3 x4 g:Int):wg.ex (wg2.st x0 x1 x2 x3 x4 g) (pick 28 [1,2,3,4] [0])=bif decide (0≤g)&&decide (0≤wab x2) then RX.lk [1,2,3,4] [0] .normal (wg3.st x0 x1 x2 x3 x4 (gI g (wab x2))) else none:=by kernel_rfl
theorem wg3.rnd (x0 x1 x2 x3 x4 g:Int):wg.ex (wg3.st x0 x1 x2 x3 x4 g) (pick 28 [1,2,3,4] [0])=bif decide (0≤g)&&decide (0≤wab x3) then RX.lk [1,2,3,4] [0] .normal (wg4.st x0 x1 x2 x3 x4 (gI g (wab x3))) else none:=by kernel_rfl
theorem wg4.rnd (x0 x1 x2 x3 x4 g:Int):wg.ex (wg4.st x0 x1 x2 x3 x4 g) (pick 28 [1,2,3,4] [0])=bif decide (0≤g)&&decide (0≤wab x4) then RX.lk [1,2,3,4] [0] .normal (wg5.st x0 x1 x2 x3 x4 (gI g (wab x4))) else none:=by kernel_rfl
theorem wg5.rnd (x0 x1 x2 x3 x4 g:Int):wg.ex (wg5.st x0 x1 x2 x3 x4 g) (pick 28 [1,2,3,4] [0])=RX.lk [1,2,3,4] [0] (.exit 0) (wg5.st x0 x1 x2 x3 x4 g):=by kernel_rfl
noncomputable def wg.lt (x0 x1 x2 x3 x4:Int):LT:= .got (wgok x0&&wgok x1&&wgok x2&&wgok x3&&wgok x4) (.exit 0) (wg5.st x0 x1 x2 x3 x4 (gI (gI (gI (gI (gI 0 x0) x1) x2) x3) x4))
theorem wg.lp {N:Nat→Prop} (x0 x1 x2 x3 x4:Int) (h:(wgok x0&&wgok x1&&wgok x2&&wgok x3&&wgok x4)=true):Lq Tryz.prog N wg.code (wg0.st x0 x1 x2 x3 x4 0) (.exit 0) (wg5.st x0 x1 x2 x3 x4 (gI (gI (gI (gI (gI 0 x0) x1) x2) x3) x4)):=by
 simp only [zB] at h
 obtain ⟨⟨⟨⟨h0,h1⟩,h2⟩,h3⟩,h4⟩:=h
 have r0:=(wg0.rnd x0 x1 x2 x3 x4 0).ct (dtrue2 (Int.le_refl _) (Io h0).1)
 rw [(Io h0).2] at r0
 refine .to (f:=5) ⟨Ac,Ai,Ad,Ah⟩ wg.ls r0 rfl ?_
 have r1:=(wg1.rnd x0 x1 x2 x3 x4 (gI 0 x0)).ct (dtrue2 (IQ _ _) (Io h1).1)
 rw [(Io h1).2] at r1
 refine .to (f:=5) ⟨Ac,Ai,Ad,Ah⟩ wg.ls r1 rfl ?_
 have r2:=(wg2.rnd x0 x1 x2 x3 x4 (gI (gI 0 x0) x1)).ct (dtrue2 (IQ _ _) (Io h2).1)
 rw [(Io h2).2] at r2
 refine .to (f:=5) ⟨Ac,Ai,Ad,Ah⟩ wg.ls r2 rfl ?_
 have r3:=(wg3.rnd x0 x1 x2 x3 x4 (gI (gI (gI 0 x0) x1) x2)).ct (dtrue2 (IQ _ _) (Io h3).1)
 rw [(Io h3).2] at r3
 refine .to (f:=5) ⟨Ac,Ai,Ad,Ah⟩ wg.ls r3 rfl ?_
 have r4:=(wg4.rnd x0 x1 x2 x3 x4 (gI (gI (gI (gI 0 x0) x1) x2) x3)).ct (dtrue2 (IQ _ _) (Io h4).1)
 rw [(Io h4).2] at r4
 refine .to (f:=5) ⟨Ac,Ai,Ad,Ah⟩ wg.ls r4 rfl ?_
 exact .end (f:=5) ⟨Ac,Ai,Ad,Ah⟩ wg.ls (wg5.rnd x0 x1 x2 x3 x4 _) (fun q=>by cases q) rfl
noncomputable def wg.t:LSpec:=fun S=>match RX.nth S.tmps 1,RX.nth S.tmps 2,RX.nth S.tmps 3,RX.nth S.tmps 4,RX.look S.heap 0 with
 | .pointer (some ⟨0,0,none⟩),.int .i64 z,.int .i64 g,.int .i64 i,some (.cs [.int .i64 x0,.int .i64 x1,.int .i64 x2,.int .i64 x3,.int .i64 x4] 108)=>bif Nat.beq S.tmps.length 28&&(Nat.beq S.nxt 64&&(ieq z 0&&(ieq g 0&&ieq i 0))) then some (wg.lt x0 x1 x2 x3 x4) else none
 |_,_,_,_,_=>none
theorem wg.lok {N:Nat→Prop} :LOKn Tryz.prog N wg.code wg.t:=by
 refine Ge fun S lt x' S' ht hat=> ?_
 unfold wg.t at ht
 split at ht
 ·rename_i z g i x0 x1 x2 x3 x4 h1 h2 h3 h4 g0
  cases hb:Nat.beq S.tmps.length 28&&(Nat.beq S.nxt 64&&(ieq z 0&&(ieq g 0&&ieq i 0))) with
  |false=>rw [hb] at ht; cases ht
  | true=>
   rw [hb] at ht
   injection ht with ht
   subst ht
   simp only [zB,HT] at hb
   obtain ⟨hb,hnx,rfl,rfl,rfl⟩:=hb
   obtain ⟨hc,rfl,rfl⟩:=Fw hat
   exact Lq.into 28 [1,2,3,4] [0] hb (zE hnx) (by simp only [List.map_cons,List.map_nil,h1,h2,h3,h4]; rfl) (by simp only [List.map_cons,List.map_nil,g0]; rfl) (S2:=wg0.st x0 x1 x2 x3 x4 0) rfl (wg.lp x0 x1 x2 x3 x4 hc)
 ·cases ht
theorem rgcd.run (x0 x1 x2 x3 x4:Int):xfn Tryz.prog ⟨[],[],[]⟩ [(0,wg.t)] 10 Tryz.f91 [.agg ⟨[.int .i64 x0,.int .i64 x1,.int .i64 x2,.int .i64 x3,.int .i64 x4]⟩] []=bif wgok x0&&wgok x1&&wgok x2&&wgok x3&&wgok x4 then some (.int .i64 (gI (gI (gI (gI (gI 0 x0) x1) x2) x3) x4),[]) else none:=by kernel_rfl
noncomputable def rgcd.sp:HSpec
 |[.agg ⟨[.int .i64 x0,.int .i64 x1,.int .i64 x2,.int .i64 x3,.int .i64 x4]⟩],[]=>some (wgok x0&&wgok x1&&wgok x2&&wgok x3&&wgok x4,.int .i64 (gI (gI (gI (gI (gI 0 x0) x1) x2) x3) x4),[])
 |_,_=>none
theorem rgcd.ok:SOK Tryz.prog 91 rgcd.sp:=by
 refine Cu (E:=⟨[],[],[]⟩) (L:=[(0,wg.t)]) ⟨Ac,Ai,Ad,Ah⟩ 10 Tryz.func91 (by decide) rfl (Ga rfl rfl wg.lok) fun vs bl v bl' h=> ?_
 unfold rgcd.sp at h
 split at h
 ·rename_i x0 x1 x2 x3 x4
  simp only [zS,zP] at h
  obtain ⟨h1,rfl,rfl⟩:=h
  exact ⟨(rgcd.run x0 x1 x2 x3 x4).trans (ct h1),by simp [okV],clo_spec 8 _ rfl,Ay rfl⟩
 ·cases h
abbrev wi6.st (b:Bool) (s:ByteArray) (u:Int) (i:Int) (nx:Nat):St:=⟨gbuild [(1,.pointer (some ⟨0,0,none⟩)),(4,.int .u64 u),(5,.int .i64 i)] 0 52,[(0,.cs [Value.bool b,Value.string s] 24)],nx⟩
theorem wi6.rnd (b:Bool) (s:ByteArray) (u:Int) (i:Int) (nx:Nat):exec Tryz.prog ⟨[],[],[]⟩ [] (hs Tryz.prog ⟨[],[],[]⟩ 3).lf (hs Tryz.prog ⟨[],[],[]⟩ 3).cf (Ag Tryz.f130 0) (wi6.st b s u i nx) (pick 52 [1,4,5] [0])=
 bif decide (i<((s.size:Nat):Int)) then bif decide (0≤i)&&decide (i<((s.size:Nat):Int)) then lk [1,4,5] [0] .normal (wi6.st b s (u64.wrap (u64.wrap (u*2^min (Int.toNat 8) u64.bits)+u64.wrap (((s.data.toList.getD i.toNat 0).toNat:Nat):Int))) (i64.wrap (i+1)) nx) else none else lk [1,4,5] [0] (.exit 0) (wi6.st b s u i nx):=by kernel_rfl
theorem wi6.step0 {N:Nat→Prop} (b:Bool) (s:ByteArray) (u:Int) (i:Int) (nx:Nat) (h0:(decide (i<((s.size:Nat):Int)))=true) (h1:(decide (0≤i)&&decide (i<((s.size:Nat):Int)))=true) {x:X} {S':St} (ih:Lq Tryz.prog N (Ag Tryz.f130 0) (wi6.st b s (u64.wrap (u64.wrap (u*2^min (Int.toNat 8) u64.bits)+u64.wrap (((s.data.toList.getD i.toNat 0).toNat:Nat):Int))) (i64.wrap (i+1)) nx) x (S')):Lq Tryz.prog N (Ag Tryz.f130 0) (wi6.st b s u i nx) x (S'):=
 .toK (f:=3) ⟨Ac,Ai,Ad,Ah⟩ Be (((wi6.rnd b s u i nx).trans (ct h0)).trans (ct h1)) rfl rfl ih
theorem wi6.stop1 {N:Nat→Prop} (b:Bool) (s:ByteArray) (u:Int) (i:Int) (nx:Nat) (h0:(decide (i<((s.size:Nat):Int)))=false):Lq Tryz.prog N (Ag Tryz.f130 0) (wi6.st b s u i nx) (.exit 0) (wi6.st b s u i nx):=
 .endK (f:=3) ⟨Ac,Ai,Ad,Ah⟩ Be ((wi6.rnd b s u i nx).trans (cf h0)) (fun q=>by cases q) rfl rfl
theorem wi6.enter {N:Nat→Prop} {S S':St} {x:X} {b:Bool} {s:ByteArray} {u:Int} {i:Int} (h1:RX.nth S.tmps 1= .pointer (some ⟨0,0,none⟩)) (h4:RX.nth S.tmps 4= .int .u64 u) (h5:RX.nth S.tmps 5= .int .i64 i) (g0:RX.look S.heap 0=some (.cs [Value.bool b,Value.string s] 24)) (hl:S.tmps.length=52) (hk:Lq Tryz.prog N (Ag Tryz.f130 0) (wi6.st b s u i S.nxt) x (S')):Lq Tryz.prog N (Ag Tryz.f130 0) (S) x (S'):=by
 obtain ⟨T,H,n⟩:=S
 exact .enter (fun h=>Gr hl (.cons ⟨h1,bnth h h1⟩ (.cons ⟨h4,bnth h h4⟩ (.cons ⟨h5,bnth h h5⟩ .nil))) (.cons ⟨g0,bname h g0,rfl⟩ .nil)) hk
def wi6.lt (b:Bool) (s:ByteArray) (u i:Int) (nx:Nat):LT:= .got (decide (u=0)&&(decide (i=0)&&Nat.ble s.size 8)) (.exit 0) (wi6.st b s (bv s.data.toList) (s.size:Int) nx)
theorem wi6.go {N:Nat→Prop} (b:Bool) (s:ByteArray) (nx:Nat) (h8:s.size≤8):∀(d k:Nat),k+d=s.size→Lq Tryz.prog N (Ag Tryz.f130 0) (wi6.st b s (bv (s.data.toList.take k)) (k:Int) nx) (.exit 0) (wi6.st b s (bv s.data.toList) (s.size:Int) nx)
 | 0,k,h=>by
  have e:k=s.size:=by omega
  subst e
  rw [show s.data.toList.take s.size=s.data.toList from List.take_of_length_le (Nat.le_refl _)]
  exact wi6.stop1 b s _ _ nx (dfalse (by omega))
 | d +1,k,h=>by
  have hs:s.data.toList.length=s.size:=rfl
  have h1:s.data.toList.take (k+1)=s.data.toList.take k++[s.data.toList.getD k 0]:=by
   rw [List.take_add_one,List.getD_eq_getElem?_getD,List.getElem?_eq_getElem (by omega)]; rfl
  have h2:=Jp (s.data.toList.take k)
  have h3:=Fd (s.data.toList.take k)
  have h4:p8 (s.data.toList.take k).length≤72057594037927936:=Int.le_trans (HA (show (s.data.toList.take k).length≤7 by rw [List.length_take]; omega)) (by decide)
  have hb:(s.data.toList.getD k 0).toNat<256:=(s.data.toList.getD k 0).toNat_lt
  refine wi6.step0 b s _ _ nx (dtrue (by omega)) (dtrue2 (by omega) (by omega)) ?_
  have w:i64.wrap ((k:Int)+1)=((k+1:Nat):Int):=by rw [w64 (by omega) (by omega)]; omega
  rw [w,Int.toNat_natCast,show ((2:Int)^min (Int.toNat 8) u64.bits)=256 from rfl]
  have e:u64.wrap (u64.wrap (bv (s.data.toList.take k)*256)+u64.wrap (((s.data.toList.getD k 0).toNat:Nat):Int))=bv (s.data.toList.take (k+1)):=by
   rw [h1,Ob,u64of (n:=bv (s.data.toList.take k)*256) (by omega) (by omega),u64of (n:=(((s.data.toList.getD k 0).toNat:Nat):Int)) (by omega) (by omega),u64of (by omega) (by omega)]
   omega
  rw [e]
  exact wi6.go b s nx h8 d (k+1) (by omega)
theorem wi6.lp {N:Nat→Prop} (b:Bool) (s:ByteArray) (u i:Int) (nx:Nat) {x:X} {S':St} (h:(wi6.lt b s u i nx).at=some (x,S')):Lq Tryz.prog N (Ag Tryz.f130 0) (wi6.st b s u i nx) x S':=by
 obtain ⟨h1,rfl,rfl⟩:=Fw h
 simp only [zB,zD,Nat.ble_eq] at h1
 obtain ⟨rfl,rfl,h2⟩:=h1
 exact wi6.go b s nx h2 s.size 0 (Nat.zero_add _)
def wi6.t:LSpec:=fun S=>match RX.nth S.tmps 1,RX.nth S.tmps 4,RX.nth S.tmps 5,RX.look S.heap 0 with
 | .pointer (some ⟨0,0,none⟩),.int .u64 u,.int .i64 i,some (.cs [Value.bool b,Value.string s] 24)=>bif Nat.beq S.tmps.length 52 then some (wi6.lt b s u i S.nxt) else none
 |_,_,_,_=>none
theorem wi6.lok {N:Nat→Prop} :LOKn Tryz.prog N (Ag Tryz.f130 0) (wi6.t):=by
 refine Ge fun S lt x S' ht hat=> ?_
 unfold wi6.t at ht
 split at ht
 ·rename_i u i b s h1 h4 h5 g0
  cases hb:Nat.beq S.tmps.length 52 with
  |false=>rw [hb] at ht; cases ht
  | true=>
   rw [hb] at ht
   injection ht with ht
   subst ht
   have hb:=zE hb
   exact wi6.enter h1 h4 h5 g0 hb (wi6.lp _ _ _ _ _ hat)
 ·cases ht
def i64ok (n:Bool) (s:ByteArray):Bool:=vld n s&&(Nat.ble s.size 8&&(decide (-9223372036854775808≤vl n s)&&decide (vl n s<9223372036854775808)))
def rI64.sp:HSpec
 |[.agg ⟨[.bool n,.string s]⟩],[]=>some (true,.tuple ⟨[.int .i64 (bif i64ok n s then vl n s else 0),.bool (i64ok n s)]⟩,[])
 |_,_=>none
theorem wri6.run (na:Bool) (sa:ByteArray):xfn Tryz.prog ⟨[(86,Valid.sp)],[],[]⟩ [(0,wi6.t)] 10 Tryz.f130 [.agg ⟨[.bool na,.string sa]⟩] []=
 bif !vld na sa then some ((Value.tuple ⟨[Value.int i64 0,Value.bool false]⟩,[])) else bif decide (((sa.size:Nat):Int)>8) then some ((Value.tuple ⟨[Value.int i64 0,Value.bool false]⟩,[])) else bif decide (0=0)&&(decide (0=0)&&sa.size.ble 8) then bif na then bif decide (bv sa.data.toList≤9223372036854775808) then some ((Value.tuple ⟨[Value.int i64 (i64.wrap (i64.wrap (0-i64.wrap (u64.wrap (bv sa.data.toList-1)))-1)),Value.bool true]⟩,[])) else bif !na then bif decide (bv sa.data.toList<9223372036854775808) then some ((Value.tuple ⟨[Value.int i64 (i64.wrap (bv sa.data.toList)),Value.bool true]⟩,[])) else some ((Value.tuple ⟨[Value.int i64 0,Value.bool false]⟩,[])) else some ((Value.tuple ⟨[Value.int i64 0,Value.bool false]⟩,[])) else bif !na then bif decide (bv sa.data.toList<9223372036854775808) then some ((Value.tuple ⟨[Value.int i64 (i64.wrap (bv sa.data.toList)),Value.bool true]⟩,[])) else some ((Value.tuple ⟨[Value.int i64 0,Value.bool false]⟩,[])) else some ((Value.tuple ⟨[Value.int i64 0,Value.bool false]⟩,[])) else none:=by kernel_rfl
theorem vld_pos {n:Bool} {s:ByteArray} (h:vld n s=true) (hn:n=true):0<bv s.data.toList:=by
 obtain ⟨⟨l⟩⟩:=s
 subst hn
 cases l with
 |nil=>cases h
 | cons b r=>
  have hb:(b.toNat==0)=false:=by simpa [vld,vldL] using h
  have:=Jo (r:=r) hb
  have:=Hk r.length
  show 0<bv (b::r)
  omega
theorem rI64.ok:SOK Tryz.prog 130 rI64.sp:=by
 refine Cu (E:=⟨[(86,Valid.sp)],[],[]⟩) (L:=[(0,wi6.t)]) ⟨Aa Id.ok Ac,Ai,Ad,Ah⟩ 10 Tryz.func130 (by decide) rfl (Ga rfl rfl wi6.lok) fun vs bl v bl' h=> ?_
 unfold rI64.sp at h
 split at h
 ·rename_i n s
  simp only [zS,zP,true_and] at h
  obtain ⟨rfl,rfl⟩:=h
  refine ⟨(wri6.run n s).trans ?_,by simp [okV],clo_spec 8 _ rfl,Ay rfl⟩
  unfold i64ok
  cases va:vld n s with
  |false=>rfl
  |true=>
  by_cases h8:s.size≤8
  ·have hb:=Fd s.data.toList
   rw [dfalse (show ¬((s.size:Nat):Int)>8 by omega),Nat.ble_eq_true_of_le h8]
   simp only [zN,cond_false,cond_true,decide_true,Bool.and_self,Bool.true_and]
   cases n with
   | true=>
    have hp:=vld_pos va rfl
    have hv:vl true s= -bv s.data.toList:=rfl
    rw [hv]
    by_cases hc:bv s.data.toList≤9223372036854775808
    ·rw [dtrue hc,dtrue (show -9223372036854775808≤ -bv s.data.toList by omega),dtrue (show -bv s.data.toList<9223372036854775808 by omega),u64of (by omega) (by omega),w64 (n:=bv s.data.toList-1) (by omega) (by omega),w64 (n:=0-(bv s.data.toList-1)) (by omega) (by omega),w64 (by omega) (by omega)]
     simp only [cond_true,Bool.and_self]
     congr 6
     omega
    ·rw [dfalse hc,dfalse (show ¬ -9223372036854775808≤ -bv s.data.toList by omega)]
     rfl
   | false=>
    have hv:vl false s=bv s.data.toList:=rfl
    rw [hv]
    by_cases hc:bv s.data.toList<9223372036854775808
    ·rw [dtrue hc,dtrue (show -9223372036854775808≤bv s.data.toList by omega),w64 (n:=bv s.data.toList) (by omega) (by omega)]
     rfl
    ·rw [dfalse hc,dtrue (show -9223372036854775808≤bv s.data.toList by omega)]
     rfl
  ·rw [dtrue (show ((s.size:Nat):Int)>8 by omega)]
   have:Nat.ble s.size 8=false:=by
    cases h:Nat.ble s.size 8 with
    |false=>rfl
    |true=>exact absurd (zL h) h8
   rw [this]
   rfl
 ·cases h
def small7 (n:Bool) (s:ByteArray):Int:=bif vld n s then vl n s else 0
def rsmall.sp:HSpec
 |[.agg ⟨[.bool n,.string s]⟩],[]=>some (true,.tuple ⟨[.int .i64 (bif Nat.ble s.size 7 then small7 n s else 0),.bool (Nat.ble s.size 7)]⟩,[])
 |_,_=>none
theorem wrsm.run (na:Bool) (sa:ByteArray):xfn Tryz.prog ⟨[(130,rI64.sp)],[],[]⟩ [] 10 Tryz.f111 [.agg ⟨[.bool na,.string sa]⟩] []=
 bif decide (((sa.size:Nat):Int)>7) then some ((Value.tuple ⟨[Value.int i64 0,Value.bool false]⟩,[])) else some ((Value.tuple ⟨[Value.int i64 (bif i64ok na sa then vl na sa else 0),Value.bool true]⟩,[])):=by kernel_rfl
theorem rsmall.ok:SOK Tryz.prog 111 rsmall.sp:=by
 refine Cu (E:=⟨[(130,rI64.sp)],[],[]⟩) (L:=[]) ⟨Aa rI64.ok Ac,Ai,Ad,Ah⟩ 10 Tryz.func111 (by decide) rfl Bv fun vs bl v bl' h=> ?_
 unfold rsmall.sp at h
 split at h
 ·rename_i n s
  simp only [zS,zP,true_and] at h
  obtain ⟨rfl,rfl⟩:=h
  refine ⟨(wrsm.run n s).trans ?_,by simp [okV],clo_spec 8 _ rfl,Ay rfl⟩
  by_cases h7:s.size≤7
  ·rw [dfalse (show ¬((s.size:Nat):Int)>7 by omega),Nat.ble_eq_true_of_le h7]
   simp only [cond_false,cond_true]
   congr 5
   unfold small7 i64ok
   cases va:vld n s with
   |false=>rfl
   | true=>
    have hb:=Fd s.data.toList
    have h1:=Jp s.data.toList
    have h2:p8 s.data.toList.length≤72057594037927936:=Int.le_trans (HA (show s.data.toList.length≤7 from h7)) (by decide)
    have h3: -72057594037927936≤vl n s∧vl n s<72057594037927936:=by unfold vl; cases n<;>simp only [cond_true,cond_false]<;>omega
    rw [Nat.ble_eq_true_of_le (show s.size≤8 by omega),dtrue (show -9223372036854775808≤vl n s by omega),dtrue (show vl n s<9223372036854775808 by omega)]
    rfl
  ·rw [dtrue (show ((s.size:Nat):Int)>7 by omega)]
   have:Nat.ble s.size 7=false:=by
    cases h:Nat.ble s.size 7 with
    |false=>rfl
    |true=>exact absurd (zL h) h7
   rw [this]
   rfl
 ·cases h
abbrev wgc.st (zb:Bool) (zs:ByteArray) (n:Int) (m:Int) (nx:Nat):St:=⟨gbuild [(4,.pointer (some ⟨32,0,none⟩)),(5,.int .i64 n),(7,.int .i64 m)] 0 111,[(32,.cs [Value.bool zb,Value.string zs] 24)],nx⟩
theorem wgc.rnd (zb:Bool) (zs:ByteArray) (n:Int) (m:Int) (nx:Nat):exec Tryz.prog ⟨[],[],[]⟩ [] (hs Tryz.prog ⟨[],[],[]⟩ 3).lf (hs Tryz.prog ⟨[],[],[]⟩ 3).cf (Ag Tryz.f92 0) (wgc.st zb zs n m nx) (pick 111 [4,5,7] [32])=
 bif m !=0 then bif m !=0 then lk [4,5,7] [32] .normal (wgc.st zb zs m (n.tmod m) nx) else none else lk [4,5,7] [32] (.exit 0) (wgc.st zb zs n m nx):=by kernel_rfl
theorem wgc.step0 {N:Nat→Prop} (zb:Bool) (zs:ByteArray) (n:Int) (m:Int) (nx:Nat) (h0:(m !=0)=true) (h1:(m !=0)=true) {x:X} {S':St} (ih:Lq Tryz.prog N (Ag Tryz.f92 0) (wgc.st zb zs m (n.tmod m) nx) x (S')):Lq Tryz.prog N (Ag Tryz.f92 0) (wgc.st zb zs n m nx) x (S'):=
 .toK (f:=3) ⟨Ac,Ai,Ad,Ah⟩ Be (((wgc.rnd zb zs n m nx).trans (ct h0)).trans (ct h1)) rfl rfl ih
theorem wgc.stop1 {N:Nat→Prop} (zb:Bool) (zs:ByteArray) (n:Int) (m:Int) (nx:Nat) (h0:(m !=0)=false):Lq Tryz.prog N (Ag Tryz.f92 0) (wgc.st zb zs n m nx) (.exit 0) (wgc.st zb zs n m nx):=
 .endK (f:=3) ⟨Ac,Ai,Ad,Ah⟩ Be ((wgc.rnd zb zs n m nx).trans (cf h0)) (fun q=>by cases q) rfl rfl
theorem wgc.enter {N:Nat→Prop} {S S':St} {x:X} {zb:Bool} {zs:ByteArray} {n:Int} {m:Int} (h4:RX.nth S.tmps 4= .pointer (some ⟨32,0,none⟩)) (h5:RX.nth S.tmps 5= .int .i64 n) (h7:RX.nth S.tmps 7= .int .i64 m) (g32:RX.look S.heap 32=some (.cs [Value.bool zb,Value.string zs] 24)) (hl:S.tmps.length=111) (hk:Lq Tryz.prog N (Ag Tryz.f92 0) (wgc.st zb zs n m S.nxt) x (S')):Lq Tryz.prog N (Ag Tryz.f92 0) (S) x (S'):=by
 obtain ⟨T,H,n⟩:=S
 exact .enter (fun h=>Gr hl (.cons ⟨h4,bnth h h4⟩ (.cons ⟨h5,bnth h h5⟩ (.cons ⟨h7,bnth h h7⟩ .nil))) (.cons ⟨g32,bname h g32,rfl⟩ .nil)) hk
theorem wgc.go {N:Nat→Prop} (zb:Bool) (zs:ByteArray) (nx:Nat):∀(k:Nat) (a b:Int),0≤a→0≤b→b≤(k:Int)→Lq Tryz.prog N (Ag Tryz.f92 0) (wgc.st zb zs a b nx) (.exit 0) (wgc.st zb zs (gI a b) 0 nx)
 | k,a,b,ha,hb,hn=>by
  by_cases h0:b=0
  ·subst h0
   rw [HU,Int.gcd_zero_right,show ((a.natAbs:Nat):Int)=a by omega]
   exact wgc.stop1 zb zs a 0 nx rfl
  ·cases k with
   |zero=>omega
   | succ k=>
    have h1:(b !=0)=true:=Em h0
    refine wgc.step0 zb zs a b nx h1 h1 ?_
    have m0:=Int.emod_nonneg a h0
    have m1:=Int.emod_lt_of_pos a (show 0<b by omega)
    rw [Int.tmod_eq_emod_of_nonneg ha]
    have e:gI b (a%b)=gI a b:=by rw [HU,HU,MP,Int.gcd_comm]
    rw [←e]
    exact wgc.go zb zs nx k b (a%b) hb m0 (by omega)
noncomputable def wgc.lt (zb:Bool) (zs:ByteArray) (n m:Int) (nx:Nat):LT:= .got (decide (0≤n)&&decide (0≤m)) (.exit 0) (wgc.st zb zs (gI n m) 0 nx)
theorem wgc.lp {N:Nat→Prop} (zb:Bool) (zs:ByteArray) (n m:Int) (nx:Nat) {x:X} {S':St} (h:(wgc.lt zb zs n m nx).at=some (x,S')):Lq Tryz.prog N (Ag Tryz.f92 0) (wgc.st zb zs n m nx) x S':=by
 obtain ⟨h1,rfl,rfl⟩:=Fw h
 simp only [zB,zD] at h1
 exact wgc.go zb zs nx m.toNat n m h1.1 h1.2 (by omega)
noncomputable def wgc.t:LSpec:=fun S=>match RX.nth S.tmps 4,RX.nth S.tmps 5,RX.nth S.tmps 7,RX.look S.heap 32 with
 | .pointer (some ⟨32,0,none⟩),.int .i64 n,.int .i64 m,some (.cs [Value.bool zb,Value.string zs] 24)=>bif Nat.beq S.tmps.length 111 then some (wgc.lt zb zs n m S.nxt) else none
 |_,_,_,_=>none
theorem wgc.lok {N:Nat→Prop} :LOKn Tryz.prog N (Ag Tryz.f92 0) (wgc.t):=by
 refine Ge fun S lt x S' ht hat=> ?_
 unfold wgc.t at ht
 split at ht
 ·rename_i n m zb zs h4 h5 h7 g32
  cases hb:Nat.beq S.tmps.length 111 with
  |false=>rw [hb] at ht; cases ht
  | true=>
   rw [hb] at ht
   injection ht with ht
   subst ht
   have hb:=zE hb
   exact wgc.enter h4 h5 h7 g32 hb (wgc.lp _ _ _ _ _ hat)
 ·cases ht
def r7 (s:ByteArray):Bool:=Nat.ble s.size 7
noncomputable def P8.sp:HSpec
 |[.agg ⟨[.bool na,.string sa]⟩,.agg ⟨[.bool nb,.string sb]⟩],[]=>some (vld na sa&&(vld nb sb&&(r7 sa&&r7 sb)),iI (gI (vl na sa) (vl nb sb)),[])
 |_,_=>none
theorem Ma {n:Bool} {s:ByteArray} (h:vld n s=true):small7 false s=((vl n s).natAbs:Int):=by
 have h1:vld false s=true:=by
  obtain ⟨⟨l⟩⟩:=s
  cases l with
  |nil=>rfl
  |cons b r=>exact h
 unfold small7
 rw [h1,LO]; rfl
theorem wrg7.run (na:Bool) (sa:ByteArray) (nb:Bool) (sb:ByteArray):xfn Tryz.prog ⟨[(86,Valid.sp),(111,rsmall.sp),(55,rOf.sp),(88,digits.sp)],[],[]⟩ [(0,wgc.t)] 10 Tryz.f92 [.agg ⟨[.bool na,.string sa]⟩,.agg ⟨[.bool nb,.string sb]⟩] []=
 bif !vld na sa then some ((Value.agg ⟨[Value.bool false,Value.string (⟨#[]⟩:ByteArray)]⟩,[])) else bif !vld nb sb then some ((Value.agg ⟨[Value.bool false,Value.string (⟨#[]⟩:ByteArray)]⟩,[])) else bif decide (((sa.size:Nat):Int)≤7) then bif decide (((sb.size:Nat):Int)≤7) then bif decide (0≤bif sa.size.ble 7 then small7 false sa else 0)&&decide (0≤bif sb.size.ble 7 then small7 false sb else 0) then bif decide (-9223372036854775808≤gI (bif sa.size.ble 7 then small7 false sa else 0) (bif sb.size.ble 7 then small7 false sb else 0))&&decide (gI (bif sa.size.ble 7 then small7 false sa else 0) (bif sb.size.ble 7 then small7 false sb else 0)≤9223372036854775807) then some ((Value.agg ⟨[Value.bool (decide (gI (bif sa.size.ble 7 then small7 false sa else 0) (bif sb.size.ble 7 then small7 false sb else 0)<0)),Value.string (str (enc (((gI (bif sa.size.ble 7 then small7 false sa else 0) (bif sb.size.ble 7 then small7 false sb else 0)).natAbs:Nat):Int)))]⟩,[])) else none else none else bif sa.size.ble 8589934592 then bif sb.size.ble 8589934592 then bif ((n3 sa:Nat):Int)==0 then none else bif ((n3 sb:Nat):Int)==0 then none else none else none else none else bif sa.size.ble 8589934592 then bif sb.size.ble 8589934592 then bif ((n3 sa:Nat):Int)==0 then none else bif ((n3 sb:Nat):Int)==0 then none else none else none else none:=by kernel_rfl
theorem P8.ok:SOK Tryz.prog 92 P8.sp:=by
 refine Cu (E:=⟨[(86,Valid.sp),(111,rsmall.sp),(55,rOf.sp),(88,digits.sp)],[],[]⟩) (L:=[(0,wgc.t)]) ⟨Aa Id.ok (Aa rsmall.ok (Aa rOf.ok (Aa digits.ok Ac))),Ai,Ad,Ah⟩ 10 Tryz.func92 (by decide) rfl (Hm rfl (Fv rfl wgc.lok Be)) fun vs bl v bl' h=> ?_
 unfold P8.sp at h
 split at h
 ·rename_i na sa nb sb
  simp only [zS,zP,zB,r7] at h
  obtain ⟨⟨va,vb,h1,h2⟩,rfl,rfl⟩:=h
  refine ⟨(wrg7.run na sa nb sb).trans ?_,by simp [okV],clo_spec 8 _ rfl,Ay rfl⟩
  have l1:=zL h1
  have l2:=zL h2
  rw [va,vb,h1,h2,dtrue (show ((sa.size:Nat):Int)≤7 by omega),dtrue (show ((sb.size:Nat):Int)≤7 by omega)]
  simp only [zN,cond_false,cond_true]
  rw [Ma va,Ma vb]
  have e:gI ((vl na sa).natAbs:Int) ((vl nb sb).natAbs:Int)=gI (vl na sa) (vl nb sb):=by
   rw [HU,HU,Int.gcd_eq_natAbs_gcd_natAbs,Int.gcd_eq_natAbs_gcd_natAbs,Int.natAbs_natCast,Int.natAbs_natCast]
  simp only [e]
  have g0:=IQ (vl na sa) (vl nb sb)
  have bd:∀ {n:Bool} {s:ByteArray},s.size≤7→((vl n s).natAbs:Int)<72057594037927936:=fun {n s} hs=>by
   rw [LO]
   have h1:=Jp s.data.toList
   have h2:p8 s.data.toList.length≤72057594037927936:=Int.le_trans (HA (show s.data.toList.length≤7 from hs)) (by decide)
   omega
  have b1:=bd (n:=na) l1
  have b2:=bd (n:=nb) l2
  have g1:gI (vl na sa) (vl nb sb)<72057594037927936:=by
   rw [HU]
   by_cases h0:vl na sa=0
   ·rw [h0,Int.gcd_zero_left]; exact b2
   ·have:=Nat.le_of_dvd (by omega) (Int.gcd_dvd_natAbs_left (vl na sa) (vl nb sb)); omega
  rw [dtrue2 (by omega) (by omega),dtrue2 (show -9223372036854775808≤gI (vl na sa) (vl nb sb) by omega) (show gI (vl na sa) (vl nb sb)≤9223372036854775807 by omega)]
  rfl
 ·cases h
def Dr (n:Bool) (s:ByteArray) (m:Bool) (t:ByteArray):Int:=sgn (bif vld n s&&vld m t then vl n s-vl m t else 0)
def Dr.pre (n:Bool) (s:ByteArray) (m:Bool) (t:ByteArray):Bool:=szOk s&&szOk t
theorem Dr.ok:SOK Tryz.prog 56 (Dr.sp Dr Dr.pre):=by
 refine ⟨rCmpR.ok.enter,fun vs bl v bl' hs=>rCmpR.ok.run vs bl v bl' ?_⟩
 unfold Dr.sp at hs
 split at hs
 ·rw [←hs]; rfl
 ·cases hs
def Cb (n:Int):Bool×ByteArray:=dI n
def Cb.pre (n:Int):Bool:=decide (-9223372036854775808≤n)&&decide (n≤9223372036854775807)
theorem Cb.ok:SOK Tryz.prog 55 (Cb.sp Cb Cb.pre):=by
 refine ⟨rOf.ok.enter,fun vs bl v bl' hs=>rOf.ok.run vs bl v bl' ?_⟩
 unfold Cb.sp at hs
 split at hs
 ·rw [←hs]; rfl
 ·cases hs
section
variable (n:Bool) (s:ByteArray) (m:Bool) (t:ByteArray)
noncomputable def Ei:Bool×ByteArray:=dI (gI (vl n s) (vl m t))
def Ei.pre:Bool:=vld n s&&(vld m t&&(r7 s&&r7 t))
end
theorem Ei.ok:SOK Tryz.prog 92 (Ei.sp Ei Ei.pre):=by
 refine ⟨P8.ok.enter,fun vs bl v bl' hs=>P8.ok.run vs bl v bl' ?_⟩
 unfold Ei.sp at hs
 split at hs
 ·rw [←hs]; rfl
 ·cases hs
def Fm (n:Bool) (s:ByteArray):Bool:=vld n s
theorem Fm.ok:SOK Tryz.prog 86 (Fm.sp Fm):=by
 refine ⟨Id.ok.enter,fun vs bl v bl' hs=>Id.ok.run vs bl v bl' ?_⟩
 unfold Fm.sp at hs
 split at hs
 ·rw [←hs]; rfl
 ·cases hs
def Ft (n:Bool) (s:ByteArray):Int:=sgn (bif vld n s then vl n s else 0)
theorem Ft.ok:SOK Tryz.prog 87 (Ft.sp Ft):=by
 refine ⟨Pu.ok.enter,fun vs bl v bl' hs=>Pu.ok.run vs bl v bl' ?_⟩
 unfold Ft.sp at hs
 split at hs
 ·rw [←hs]; rfl
 ·cases hs
def Ee (n:Bool) (s:ByteArray):Bool×ByteArray:=dI (bif vld n s then ((vl n s).natAbs:Int) else 0)
theorem Ee.ok:SOK Tryz.prog 57 (Ee.sp Ee):=by
 refine ⟨rAbsR.ok.enter,fun vs bl v bl' hs=>rAbsR.ok.run vs bl v bl' ?_⟩
 unfold Ee.sp at hs
 split at hs
 ·rw [←hs]; rfl
 ·cases hs
def Fc (n0:Bool) (s0:ByteArray) (n1:Bool) (s1:ByteArray) (n2:Bool) (s2:ByteArray) (n3:Bool) (s3:ByteArray) (n4:Bool) (s4:ByteArray):Int×Int×Int×Int×Int×Bool:=(bif wdok n0 s0 then vl n0 s0 else 0,bif wdok n0 s0&&wdok n1 s1 then vl n1 s1 else 0,bif wdok n0 s0&&wdok n1 s1&&wdok n2 s2 then vl n2 s2 else 0,bif wdok n0 s0&&wdok n1 s1&&wdok n2 s2&&wdok n3 s3 then vl n3 s3 else 0,bif wdok n0 s0&&wdok n1 s1&&wdok n2 s2&&wdok n3 s3&&wdok n4 s4 then vl n4 s4 else 0,(wdok n0 s0&&wdok n1 s1&&wdok n2 s2&&wdok n3 s3&&wdok n4 s4))
theorem Fc.ok:SOK Tryz.prog 90 (Fc.sp Fc):=by
 refine ⟨words.ok.enter,fun vs bl v bl' hs=>words.ok.run vs bl v bl' ?_⟩
 unfold Fc.sp at hs
 split at hs
 ·rw [←hs]; rfl
 ·cases hs
noncomputable def Eh (x0 x1 x2 x3 x4:Int):Int:=(gI (gI (gI (gI (gI 0 x0) x1) x2) x3) x4)
def Eh.pre (x0 x1 x2 x3 x4:Int):Bool:=wgok x0&&wgok x1&&wgok x2&&wgok x3&&wgok x4
theorem Eh.ok:SOK Tryz.prog 91 (Eh.sp Eh Eh.pre):=by
 refine ⟨rgcd.ok.enter,fun vs bl v bl' hs=>rgcd.ok.run vs bl v bl' ?_⟩
 unfold Eh.sp at hs
 split at hs
 ·rw [←hs]; rfl
 ·cases hs
end Go.Proofs.YtphlckkbihmlnaaGreatDoor.G
end
section
namespace Go.Proofs.YtphlckkbihmlnaaGreatDoor.G
open Go Go.Proofs Go.RowKit RX
section
variable {R:Type} (D0:Int→(Bool×ByteArray)) (CZ:Int→Bool) (EA:Bool→ByteArray→(Bool)) (FJ:Bool→ByteArray→(Int)) (F9:TF5 (Int×Int×Int×Int×Int×Bool)) (FN:Int→Int→Int→Int→Int→(Int)) (FK:Int→Int→Int→Int→Int→Bool) (EL:Bool→ByteArray→Bool→ByteArray→(Bool×ByteArray)) (EI:Bool→ByteArray→Bool→ByteArray→Bool) (A2:Bool) (A3:ByteArray) (A8:Bool) (A7:ByteArray) (A6:Bool) (A9:ByteArray) (AB:Bool) (AA:ByteArray) (AD:Bool) (AC:ByteArray)
noncomputable def Af.K (k:(Bool)→Option R):Option R:=
 let t0:=F9 A2 A3 A8 A7 A6 A9 AB AA AD AC
 bif t0.2.2.2.2.2 then bif decide (t0.2.2.2.2.1>0) then
 let t1:=FK t0.1 t0.2.1 t0.2.2.1 t0.2.2.2.1 t0.2.2.2.2.1
 bif t1 then
 let t2:=FN t0.1 t0.2.1 t0.2.2.1 t0.2.2.2.1 t0.2.2.2.2.1
 k (t2==1) else none else k (false) else
 let t3:=EA A2 A3
 bif !t3 then k (false) else
 let t4:=EI false {data:= #[]} A2 A3
 bif t4 then
 let t5:=EA A8 A7
 bif !t5 then k (false) else
 let t6:=EL false {data:= #[]} A2 A3
 let t7:=EI t6.1 t6.2 A8 A7
 bif t7 then
 let t8:=EA A6 A9
 bif !t8 then k (false) else
 let t9:=EL t6.1 t6.2 A8 A7
 let t10:=EI t9.1 t9.2 A6 A9
 bif t10 then
 let t11:=EA AB AA
 bif !t11 then k (false) else
 let t12:=EL t9.1 t9.2 A6 A9
 let t13:=EI t12.1 t12.2 AB AA
 bif t13 then
 let t14:=EA AD AC
 bif t14 then
 let t15:=FJ AD AC
 bif decide (t15>0) then
 let t16:=EL t12.1 t12.2 AB AA
 let t17:=EI t16.1 t16.2 AD AC
 bif t17 then
 let t18:=CZ 1
 bif t18 then
 let t19:=EL t16.1 t16.2 AD AC
 let t20:=D0 1
 k (t19.1==t20.1&&t19.2.toList==t20.2.toList) else none else none else k (false) else k (false) else none else none else none else none
theorem Af.run:xfn Tryz.prog ⟨[(55,Cb.sp D0 CZ),(86,Fm.sp EA),(87,Ft.sp FJ),(90,Fc.sp F9),(91,Eh.sp FN FK),(92,Ei.sp EL EI)],[],[]⟩ [] 60 Tryz.f58 [.agg ⟨[.bool A2,.string A3,.bool A8,.string A7,.bool A6,.string A9,.bool AB,.string AA,.bool AD,.string AC]⟩] []=Af.K D0 CZ EA FJ F9 FN FK EL EI A2 A3 A8 A7 A6 A9 AB AA AD AC (fun r=>some (.bool r,[])):=by kernel_rfl
noncomputable def Af.o:Option (Bool):=Af.K Cb Cb.pre Fm Ft Fc Eh Eh.pre Ei Ei.pre A2 A3 A8 A7 A6 A9 AB AA AD AC some
noncomputable def Af.pre:Bool:=(Af.o A2 A3 A8 A7 A6 A9 AB AA AD AC).isSome
noncomputable def Af:Bool:=(Af.o A2 A3 A8 A7 A6 A9 AB AA AD AC).getD default
theorem Af.nat (k:(Bool)→Option R):Af.K D0 CZ EA FJ F9 FN FK EL EI A2 A3 A8 A7 A6 A9 AB AA AD AC k=(Af.K D0 CZ EA FJ F9 FN FK EL EI A2 A3 A8 A7 A6 A9 AB AA AD AC some).bind k:=by
 simp only [Af.K,bcond,Option.bind_some,Option.bind_none]
end
theorem Jf (a b:Int):Ei (dI a).1 (dI a).2 (dI b).1 (dI b).2=dI (gI a b):=by simp [Ei]
theorem J3 {a b:Int} (ha:Bd 7 a) (hb:Bd 7 b):Ei.pre (dI a).1 (dI a).2 (dI b).1 (dI b).2=true:=by
 have h1:=Il ha
 have h2:=Il hb
 simp [Ei.pre,r7,Nat.ble_eq_true_of_le h1,Nat.ble_eq_true_of_le h2]
theorem RG {k:Nat} {a b:Int} (ha:Bd k a) (hb:Bd k b):Bd k (gI a b):=by rw [HU]; exact Jm (j:=k) ha hb
theorem NC (a b:Int):gI a b∣a∧gI a b∣b:=by rw [HU]; exact ⟨Int.gcd_dvd_left a b,Int.gcd_dvd_right a b⟩
theorem Is {x a b:Int} (ha:x∣a) (hb:x∣b):x∣gI a b:=by rw [HU]; exact Int.dvd_coe_gcd ha hb
def g5 (c0 c1 c2 c3 d:Int):Prop:=gI (gI (gI (gI (gI 0 c0) c1) c2) c3) d=1
theorem g5_gg {c0 c1 c2 c3 d:Int} (h:gI (gI (gI (gI (gI 0 c0) c1) c2) c3) d=1):gg c0 c1 c2 c3 d=1:=by
 obtain ⟨d4,d0,d1,d2,d3⟩:=OT c0 c1 c2 c3 d
 have h1:=Is (Is (Is (Is (Is (Int.dvd_zero _) d0) d1) d2) d3) d4
 rw [h] at h1
 have h2:=Lm c0 c1 c2 c3 d
 have h3:=Int.natAbs_dvd_natAbs.2 h1
 have h4:=Nat.le_of_dvd (by decide) h3
 have h5:gg c0 c1 c2 c3 d≠0:=fun h0=>by rw [h0] at h1; have:=Int.zero_dvd.1 h1; omega
 have h6:(1:Int).natAbs=1:=rfl
 omega
theorem HG {n:Bool} {s:ByteArray} (h:vld n s=true):∃c,n=(dI c).1∧s=(dI c).2∧vl n s=c:=⟨vl n s,by rw [TU h],by rw [TU h],rfl⟩
theorem bd400 {c : Int} (h : c.natAbs ≤ 400) : Bd 2 c := by unfold Bd; have:p8 2=65536:=by decide
                                                            omega
theorem Af.spec {n0 n1 n2 n3 n4:Bool} {s0 s1 s2 s3 s4:ByteArray} (h0:vld n0 s0=true→(vl n0 s0).natAbs≤400) (h1:vld n1 s1=true→(vl n1 s1).natAbs≤400) (h2:vld n2 s2=true→(vl n2 s2).natAbs≤400) (h3:vld n3 s3=true→(vl n3 s3).natAbs≤400) (h4:vld n4 s4=true→vl n4 s4≤400):
  ∃b,Af.o n0 s0 n1 s1 n2 s2 n3 s3 n4 s4=some b∧(b=true→∃q:Q,(n0,s0,n1,s1,n2,s2,n3,s3,n4,s4)=C5 q∧q.ok=true∧q.Bd 2∧q.d.natAbs≤400∧q.c0.natAbs≤400∧q.c1.natAbs≤400∧q.c2.natAbs≤400∧q.c3.natAbs≤400):=by
 have fin:∀ {c0 c1 c2 c3 d:Int},c0.natAbs≤400→c1.natAbs≤400→c2.natAbs≤400→c3.natAbs≤400→0<d→d≤400→gI (gI (gI (gI (gI 0 c0) c1) c2) c3) d=1→∃q:Q,((dI c0).1,(dI c0).2,(dI c1).1,(dI c1).2,(dI c2).1,(dI c2).2,(dI c3).1,(dI c3).2,(dI d).1,(dI d).2)=C5 q∧q.ok=true∧q.Bd 2∧q.d.natAbs≤400∧q.c0.natAbs≤400∧q.c1.natAbs≤400∧q.c2.natAbs≤400∧q.c3.natAbs≤400:=fun {c0 c1 c2 c3 d} b0 b1 b2 b3 p b4 hg=>
  ⟨⟨c0,c1,c2,c3,d⟩,rfl,by
   show (decide (0<d)&&gg c0 c1 c2 c3 d==1)=true
   rw [g5_gg hg,decide_eq_true p]; rfl,⟨bd400 b0,bd400 b1,bd400 b2,bd400 b3,bd400 (show d.natAbs≤400 by omega)⟩,by show d.natAbs≤400; omega,b0,b1,b2,b3⟩
 simp only [Af.o,Af.K,Fc,Fm,Ft]
 rcases Bool.eq_false_or_eq_true (wdok n0 s0&&wdok n1 s1&&wdok n2 s2&&wdok n3 s3&&wdok n4 s4) with hw|hw
 ·simp only [zB] at hw
  obtain ⟨⟨⟨⟨w0,w1⟩,w2⟩,w3⟩,w4⟩:=hw
  have v:∀ {n:Bool} {s:ByteArray},wdok n s=true→vld n s=true:=fun h=>by
   simp only [wdok,zB] at h; exact h.2
  have h0:=h0 (v w0)
  have h1:=h1 (v w1)
  have h2:=h2 (v w2)
  have h3:=h3 (v w3)
  have h4:=h4 (v w4)
  obtain ⟨c0,rfl,rfl,e0⟩:=HG (v w0)
  obtain ⟨c1,rfl,rfl,e1⟩:=HG (v w1)
  obtain ⟨c2,rfl,rfl,e2⟩:=HG (v w2)
  obtain ⟨c3,rfl,rfl,e3⟩:=HG (v w3)
  obtain ⟨d,rfl,rfl,e4⟩:=HG (v w4)
  simp only [ID] at h0 h1 h2 h3 h4
  simp only [w0,w1,w2,w3,w4,ID,Bool.and_self,cond_true]
  by_cases p:d>0
  ·have wg:∀ {x:Int},x.natAbs≤400→wgok x=true:=fun h=>by
    simp only [wgok,zB,zD]; omega
   rw [decide_eq_true p,cond_true]
   have hp:Eh.pre c0 c1 c2 c3 d=true:=by
    simp only [Eh.pre,wg h0,wg h1,wg h2,wg h3,wg (show d.natAbs≤400 by omega),Bool.and_self]
   rw [hp,cond_true]
   refine ⟨_,rfl,fun hb=> ?_⟩
   exact fin h0 h1 h2 h3 p h4 (of_decide_eq_true (by simpa [Eh] using hb))
  ·rw [decide_eq_false p,cond_false]
   exact ⟨false,rfl,fun h=>by cases h⟩
 ·simp only [hw,cond_false]
  cases v0:vld n0 s0 with
  |false=>exact ⟨false,rfl,fun h=>by cases h⟩
  |true=>
  have h0:=h0 v0
  obtain ⟨c0,rfl,rfl,e0⟩:=HG v0
  simp only [ID,zN,cond_false] at h0 ⊢
  have z0:(false,({data:= #[]} :ByteArray))=dI 0:=rfl
  have y1:Ei false {data:= #[]} (dI c0).1 (dI c0).2=dI (gI 0 c0):=Jf 0 c0
  have p1:Ei.pre false {data:= #[]} (dI c0).1 (dI c0).2=true:=J3 (a:=0) (Bd.zero 7) ((bd400 h0).mono (by omega))
  have b1:Bd 2 (gI 0 c0):=RG (Bd.zero 2) (bd400 h0)
  rw [p1,cond_true]
  cases v1:vld n1 s1 with
  |false=>exact ⟨false,rfl,fun h=>by cases h⟩
  |true=>
  have h1:=h1 v1
  obtain ⟨c1,rfl,rfl,e1⟩:=HG v1
  simp only [ID,zN,cond_false] at h1 ⊢
  rw [y1,Jf,J3 (b1.mono (by omega)) ((bd400 h1).mono (by omega)),cond_true]
  have b2:Bd 2 (gI (gI 0 c0) c1):=RG b1 (bd400 h1)
  cases v2:vld n2 s2 with
  |false=>exact ⟨false,rfl,fun h=>by cases h⟩
  |true=>
  have h2:=h2 v2
  obtain ⟨c2,rfl,rfl,e2⟩:=HG v2
  simp only [ID,zN,cond_false] at h2 ⊢
  rw [Jf,J3 (b2.mono (by omega)) ((bd400 h2).mono (by omega)),cond_true]
  have b3:Bd 2 (gI (gI (gI 0 c0) c1) c2):=RG b2 (bd400 h2)
  cases v3:vld n3 s3 with
  |false=>exact ⟨false,rfl,fun h=>by cases h⟩
  |true=>
  have h3:=h3 v3
  obtain ⟨c3,rfl,rfl,e3⟩:=HG v3
  simp only [ID,zN,cond_false] at h3 ⊢
  rw [Jf,J3 (b3.mono (by omega)) ((bd400 h3).mono (by omega)),cond_true]
  have b4:Bd 2 (gI (gI (gI (gI 0 c0) c1) c2) c3):=RG b3 (bd400 h3)
  by_cases v4:vld n4 s4=false
  ·simp only [v4,cond_false]; exact ⟨false,rfl,fun h=>by cases h⟩
  have v4:vld n4 s4=true:=by simpa using v4
  have h4:=h4 v4
  obtain ⟨d,rfl,rfl,e4⟩:=HG v4
  simp only [ID] at h4
  simp only [v4,ID,cond_true]
  by_cases p:d>0
  ·rw [decide_eq_true (show sgn d>0 by unfold sgn; rw [if_neg (by omega),if_neg (by omega)]; decide),cond_true,Jf,J3 (b4.mono (by omega)) ((bd400 (show d.natAbs≤400 by omega)).mono (by omega)),cond_true,show Cb.pre 1=true from rfl,cond_true,show Cb 1=dI 1 from rfl,LA]
   exact ⟨_,rfl,fun hb=>fin h0 h1 h2 h3 p h4 (by simpa using hb)⟩
  ·rw [decide_eq_false (show ¬sgn d>0 by unfold sgn; split; decide; rw [if_pos (by omega)]; decide),cond_false]
   exact ⟨false,rfl,fun h=>by cases h⟩
theorem Af.ok:SOK Tryz.prog 58 (Af.sp Af Af.pre):=by
 refine Cu (E:=⟨[(55,Cb.sp Cb Cb.pre),(86,Fm.sp Fm),(87,Ft.sp Ft),(90,Fc.sp Fc),(91,Eh.sp Eh Eh.pre),(92,Ei.sp Ei Ei.pre)],[],[]⟩) (L:=[]) ⟨(Aa Cb.ok (Aa Fm.ok (Aa Ft.ok (Aa Fc.ok (Aa Eh.ok (Aa Ei.ok Ac)))))),Ai,Ad,Ah⟩ 60 Tryz.func58 (by decide) rfl Bv fun vs bl v bl' h=> ?_
 unfold Af.sp at h
 split at h
 ·rename_i A2 A3 A8 A7 A6 A9 AB AA AD AC
  simp only [zS,zP] at h
  obtain ⟨hp,rfl,rfl⟩:=h
  have hr:=Af.run Cb Cb.pre Fm Ft Fc Eh Eh.pre Ei Ei.pre A2 A3 A8 A7 A6 A9 AB AA AD AC
  rw [Af.nat] at hr
  obtain ⟨r,h2⟩:=Option.isSome_iff_exists.1 (hp:(Af.o A2 A3 A8 A7 A6 A9 AB AA AD AC).isSome=true)
  have h3:Af A2 A3 A8 A7 A6 A9 AB AA AD AC=r:=by unfold Af; rw [h2]; rfl
  have h4:Af.K Cb Cb.pre Fm Ft Fc Eh Eh.pre Ei Ei.pre A2 A3 A8 A7 A6 A9 AB AA AD AC some=some r:=h2
  rw [h4,Option.bind_some] at hr
  rw [h3]
  exact ⟨hr,by simp [okV,Nat.blt],clo_spec 8 _ (by kernel_rfl),Ay (by kernel_rfl)⟩
 ·cases h
section
variable {R:Type} (D0:Int→(Bool×ByteArray)) (CZ:Int→Bool) (EM:Bool→ByteArray→Bool→ByteArray→(Int)) (EJ:Bool→ByteArray→Bool→ByteArray→Bool) (ES:Bool→ByteArray→(Bool×ByteArray)) (CN:TF5 (Bool)) (CM:TF5 Bool) (A2:Bool) (A3:ByteArray) (A8:Bool) (A7:ByteArray) (A6:Bool) (A9:ByteArray) (AB:Bool) (AA:ByteArray) (AD:Bool) (AC:ByteArray)
noncomputable def Bu.K (k:(Bool)→Option R):Option R:=
 let t0:=CZ 400
 bif t0 then
 let t1:=D0 400
 let t2:=EJ AD AC t1.1 t1.2
 bif t2 then
 let t3:=EM AD AC t1.1 t1.2
 bif decide (t3>0) then k (false) else
 let t4:=ES A2 A3
 let t5:=EJ t4.1 t4.2 t1.1 t1.2
 bif t5 then
 let t6:=EM t4.1 t4.2 t1.1 t1.2
 bif decide (t6>0) then k (false) else
 let t7:=ES A8 A7
 let t8:=EJ t7.1 t7.2 t1.1 t1.2
 bif t8 then
 let t9:=EM t7.1 t7.2 t1.1 t1.2
 bif decide (t9>0) then k (false) else
 let t10:=ES A6 A9
 let t11:=EJ t10.1 t10.2 t1.1 t1.2
 bif t11 then
 let t12:=EM t10.1 t10.2 t1.1 t1.2
 bif decide (t12>0) then k (false) else
 let t13:=ES AB AA
 let t14:=EJ t13.1 t13.2 t1.1 t1.2
 bif t14 then
 let t15:=EM t13.1 t13.2 t1.1 t1.2
 bif decide (t15>0) then k (false) else
 let t16:=CM A2 A3 A8 A7 A6 A9 AB AA AD AC
 bif t16 then
 let t17:=CN A2 A3 A8 A7 A6 A9 AB AA AD AC
 k (t17) else none else none else none else none else none else none else none
theorem Bu.run:xfn Tryz.prog ⟨[(55,Cb.sp D0 CZ),(56,Dr.sp EM EJ),(57,Ee.sp ES),(58,Af.sp CN CM)],[],[]⟩ [] 60 Tryz.f19 [.agg ⟨[.bool A2,.string A3,.bool A8,.string A7,.bool A6,.string A9,.bool AB,.string AA,.bool AD,.string AC]⟩] []=Bu.K D0 CZ EM EJ ES CN CM A2 A3 A8 A7 A6 A9 AB AA AD AC (fun r=>some (.bool r,[])):=by kernel_rfl
noncomputable def Bu.o:Option (Bool):=Bu.K Cb Cb.pre Dr Dr.pre Ee Af Af.pre A2 A3 A8 A7 A6 A9 AB AA AD AC some
noncomputable def Bu.pre:Bool:=(Bu.o A2 A3 A8 A7 A6 A9 AB AA AD AC).isSome
noncomputable def Bu:Bool:=(Bu.o A2 A3 A8 A7 A6 A9 AB AA AD AC).getD default
theorem Bu.nat (k:(Bool)→Option R):Bu.K D0 CZ EM EJ ES CN CM A2 A3 A8 A7 A6 A9 AB AA AD AC k=(Bu.K D0 CZ EM EJ ES CN CM A2 A3 A8 A7 A6 A9 AB AA AD AC some).bind k:=by
 simp only [Bu.K,bcond,Option.bind_some,Option.bind_none]
end
theorem Mi {n:Bool} {s:ByteArray} (h:s.size≤8589934592):Dr.pre n s (dI 400).1 (dI 400).2=true:=by
 have h1:szOk (dI 400).2=true:=IK (k:=2) (by unfold Bd; decide) (by omega)
 simp [Dr.pre,szOk,Nat.ble_eq_true_of_le h] at h1 ⊢
 exact h1
theorem SP {z:Int} (h:¬sgn z>0):z≤0:=by
 unfold sgn at h
 split at h
 ·omega
 ·split at h<;>omega
theorem Bu.spec {n0 n1 n2 n3 n4:Bool} {s0 s1 s2 s3 s4:ByteArray} (z0:s0.size≤8589934592) (z1:s1.size≤8589934592) (z2:s2.size≤8589934592) (z3:s3.size≤8589934592) (z4:s4.size≤8589934592):
  ∃b,Bu.o n0 s0 n1 s1 n2 s2 n3 s3 n4 s4=some b∧(b=true→∃q:Q,(n0,s0,n1,s1,n2,s2,n3,s3,n4,s4)=C5 q∧q.ok=true∧q.Bd 2∧q.d.natAbs≤400∧q.c0.natAbs≤400∧q.c1.natAbs≤400∧q.c2.natAbs≤400∧q.c3.natAbs≤400):=by
 have ab :∀ {n:Bool} {s:ByteArray},s.size≤8589934592→Dr.pre (Ee n s).1 (Ee n s).2 (dI 400).1 (dI 400).2=true∧(¬Dr (Ee n s).1 (Ee n s).2 (dI 400).1 (dI 400).2>0→vld n s=true→(vl n s).natAbs≤400):=fun {n s} hz=>by
  unfold Ee
  cases hv:vld n s with
  | false=>
   refine ⟨Mi ?_,fun _ h=>by cases h⟩
   exact Nat.le_trans (Il (k:=0) (Bd.zero 0)) (by omega)
  | true=>
   simp only [cond_true]
   refine ⟨Mi ?_,fun h _=> ?_⟩
   ·have:Bd s.size ((vl n s).natAbs:Int):=by
     unfold Bd
     rw [Int.natAbs_natCast,LO]
     exact Jp s.data.toList
    exact Nat.le_trans (Il this) hz
   ·have:=SP (by simpa [Dr] using h)
    omega
 have dd:¬Dr n4 s4 (dI 400).1 (dI 400).2>0→vld n4 s4=true→vl n4 s4≤400:=fun h hv=>by
  have:=SP (by simpa [Dr,hv] using h)
  omega
 have F:∃b,some false=some b∧(b=true→∃q:Q,(n0,s0,n1,s1,n2,s2,n3,s3,n4,s4)=C5 q∧q.ok=true∧q.Bd 2∧q.d.natAbs≤400∧q.c0.natAbs≤400∧q.c1.natAbs≤400∧q.c2.natAbs≤400∧q.c3.natAbs≤400):=⟨false,rfl,fun h=>by cases h⟩
 simp only [Bu.o,Bu.K,show Cb.pre 400=true from rfl,show Cb 400=dI 400 from rfl,cond_true,Mi z4,(ab z0).1,(ab z1).1,(ab z2).1,(ab z3).1]
 by_cases c4:Dr n4 s4 (dI 400).1 (dI 400).2>0
 ·rw [decide_eq_true c4,cond_true]; exact F
 rw [decide_eq_false c4,cond_false]
 by_cases c0:Dr (Ee n0 s0).1 (Ee n0 s0).2 (dI 400).1 (dI 400).2>0
 ·rw [decide_eq_true c0,cond_true]; exact F
 rw [decide_eq_false c0,cond_false]
 by_cases c1:Dr (Ee n1 s1).1 (Ee n1 s1).2 (dI 400).1 (dI 400).2>0
 ·rw [decide_eq_true c1,cond_true]; exact F
 rw [decide_eq_false c1,cond_false]
 by_cases c2:Dr (Ee n2 s2).1 (Ee n2 s2).2 (dI 400).1 (dI 400).2>0
 ·rw [decide_eq_true c2,cond_true]; exact F
 rw [decide_eq_false c2,cond_false]
 by_cases c3:Dr (Ee n3 s3).1 (Ee n3 s3).2 (dI 400).1 (dI 400).2>0
 ·rw [decide_eq_true c3,cond_true]; exact F
 rw [decide_eq_false c3,cond_false]
 obtain ⟨b,e,hb⟩:=Af.spec ((ab z0).2 c0) ((ab z1).2 c1) ((ab z2).2 c2) ((ab z3).2 c3) (dd c4)
 have e1:Af.pre n0 s0 n1 s1 n2 s2 n3 s3 n4 s4=true:=Fk e
 have e2:Af n0 s0 n1 s1 n2 s2 n3 s3 n4 s4=b:=GT e
 rw [e1,cond_true,e2]
 exact ⟨b,rfl,hb⟩
theorem Bu.ok:SOK Tryz.prog 19 (Bu.sp Bu Bu.pre):=by
 refine Cu (E:=⟨[(55,Cb.sp Cb Cb.pre),(56,Dr.sp Dr Dr.pre),(57,Ee.sp Ee),(58,Af.sp Af Af.pre)],[],[]⟩) (L:=[]) ⟨(Aa Cb.ok (Aa Dr.ok (Aa Ee.ok (Aa Af.ok Ac)))),Ai,Ad,Ah⟩ 60 Tryz.func19 (by decide) rfl Bv fun vs bl v bl' h=> ?_
 unfold Bu.sp at h
 split at h
 ·rename_i A2 A3 A8 A7 A6 A9 AB AA AD AC
  simp only [zS,zP] at h
  obtain ⟨hp,rfl,rfl⟩:=h
  have hr:=Bu.run Cb Cb.pre Dr Dr.pre Ee Af Af.pre A2 A3 A8 A7 A6 A9 AB AA AD AC
  rw [Bu.nat] at hr
  obtain ⟨r,h2⟩:=Option.isSome_iff_exists.1 (hp:(Bu.o A2 A3 A8 A7 A6 A9 AB AA AD AC).isSome=true)
  have h3:Bu A2 A3 A8 A7 A6 A9 AB AA AD AC=r:=by unfold Bu; rw [h2]; rfl
  have h4:Bu.K Cb Cb.pre Dr Dr.pre Ee Af Af.pre A2 A3 A8 A7 A6 A9 AB AA AD AC some=some r:=h2
  rw [h4,Option.bind_some] at hr
  rw [h3]
  exact ⟨hr,by simp [okV,Nat.blt],clo_spec 8 _ (by kernel_rfl),Ay (by kernel_rfl)⟩
 ·cases h
end Go.Proofs.YtphlckkbihmlnaaGreatDoor.G
end
