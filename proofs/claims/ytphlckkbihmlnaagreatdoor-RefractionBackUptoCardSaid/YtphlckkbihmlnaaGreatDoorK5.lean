/- A part of what the law's proof leans on. PACKED BY pack.py of this repo. -/
import Derived.Test.YtphlckkbihmlnaaGreatDoorK4
set_option linter.unusedVariables false
set_option linter.unusedSimpArgs false
set_option linter.unusedSectionVars false
set_option linter.defProp false
set_option maxRecDepth 100000
open Go.IntKind (i64 u64 u32)
section
namespace Go.Proofs.YtphlckkbihmlnaaGreatDoor.G
open Go Go.Proofs RX
def nd (s:ByteArray):Nat:=(s.size+3)/4
def of.sp:HSpec
 |[.string s],[]=>some (Nat.ble s.size 8589934592,.slice (some ⟨0,0,none⟩) (tl (dg (nd s) (bv s.data.toList))) (nd s),[.is .u32 (dg (nd s) (bv s.data.toList)) 144])
 |_,_=>none
theorem of.run (s:ByteArray):xfnN Tryz.prog ⟨[(134,Et.sp)],[],[]⟩ [(0,bof.t)] 10 Tryz.f121 [.string s] [] [80]=
 bif decide (0≤i64.wrap ((i64.wrap ((s.size:Int)+3)).tdiv 4))&&(decide (i64.wrap ((i64.wrap ((s.size:Int)+3)).tdiv 4)≤i64.wrap ((i64.wrap ((s.size:Int)+3)).tdiv 4))&&(decide (i64.wrap ((i64.wrap ((s.size:Int)+3)).tdiv 4)≤140737488355328)&&decide (((3+1:Nat):Int)*i64.wrap ((i64.wrap ((s.size:Int)+3)).tdiv 4)≤140737488355328))) then bif bof.ok s (i64.wrap ((i64.wrap ((s.size:Int)+3)).tdiv 4)).toNat (s.size:Int) 0 (List.replicate ((i64.wrap ((i64.wrap ((s.size:Int)+3)).tdiv 4)).toNat*(0+1)) 0) then bif trim.ok 0 (i64.wrap ((i64.wrap ((s.size:Int)+3)).tdiv 4)).toNat (i64.wrap ((i64.wrap ((s.size:Int)+3)).tdiv 4)).toNat (dg (i64.wrap ((i64.wrap ((s.size:Int)+3)).tdiv 4)).toNat (bv s.data.toList)) then some (.slice (some ⟨80,0,none⟩) (tl (seg (dg (i64.wrap ((i64.wrap ((s.size:Int)+3)).tdiv 4)).toNat (bv s.data.toList)) 0 (i64.wrap ((i64.wrap ((s.size:Int)+3)).tdiv 4)).toNat)) (i64.wrap ((i64.wrap ((s.size:Int)+3)).tdiv 4)).toNat,[.is .u32 (dg (i64.wrap ((i64.wrap ((s.size:Int)+3)).tdiv 4)).toNat (bv s.data.toList)) 144]) else none else none else none:=by kernel_rfl
theorem LG:∀(n:Nat),dg n 0=List.replicate n 0
 |0=>rfl
 |n+1=>by simp only [dg,List.replicate_succ]; rw [show (0:Int)/4294967296=0 from rfl,LG n]; rfl
theorem of.ok:SOK Tryz.prog 121 of.sp:=by
 refine Hg (E:=⟨[(134,Et.sp)],[],[]⟩) (L:=[(0,bof.t)]) ⟨Aa Et.ok Ac,Ai,Ad,Ah⟩ 10 Tryz.func121 (by decide) rfl (Ga rfl rfl bof.lok) fun vs bl v bl' h=> ?_
 unfold of.sp at h
 split at h
 ·rename_i s
  simp only [zS,zP] at h
  obtain ⟨h1,rfl,rfl⟩:=h
  have h1:=zL h1
  have e1:i64.wrap ((i64.wrap ((s.size:Int)+3)).tdiv 4)=((nd s:Nat):Int):=by
   unfold nd
   rw [w64 (n:=(s.size:Int)+3) (by omega) (by omega),Int.tdiv_eq_ediv_of_nonneg (by omega),w64 (by omega) (by omega)]; omega
  have hn:nd s≤2147483649:=by unfold nd; omega
  refine ⟨[80],(of.run s).trans ?_,by simp [okV,Nat.blt],rfl,Ay rfl,List.nodup_cons.2 ⟨by simp,List.nodup_nil⟩,by simp⟩
  rw [e1,Int.toNat_natCast,ct,ct,ct]
  ·rw [Je]; rfl
  ·simp only [trim.ok,zB,Nat.ble_eq,Di]; omega
  ·simp only [bof.ok,zB,Nat.ble_eq,zD,Nat.beq_eq]
   exact ⟨trivial,trivial,rfl,by rw [LG,Nat.mul_one],h1⟩
  ·simp only [zB,zD]; omega
 ·cases h
section
variable {N:Nat→Prop} {xe:X} {Se:St} (oa la ca ob lb cb:Nat) (i:Int) (xs:List Int) (ta:TypeId) (ys:List Int) (tb:TypeId) (nx:Nat)
abbrev cmp.st:St:=⟨gbuild [(0,.slice (some ⟨0,oa,none⟩) la ca),(1,.slice (some ⟨1,ob,none⟩) lb cb),(5,.int .i64 i)] 0 43,[(0,.is .u32 xs ta),(1,.is .u32 ys tb)],nx⟩
abbrev cmp.lk:=RX.lk [0,1,4,5] [0,1]
theorem cmp.rnd:rd Tryz.prog ⟨[],[],[]⟩ [] 3 (Ag Tryz.f123 0) (cmp.st oa la ca ob lb cb i xs ta ys tb nx) 43 [0,1,4,5] [0,1]=
 bif decide (i≥0) then bif decide (0≤i)&&decide (i<((la:Nat):Int)) then bif (oa+i.toNat*1).blt xs.length then bif decide (0≤i)&&decide (i<((lb:Nat):Int)) then bif (ob+i.toNat*1).blt ys.length then bif decide (xs.getD (oa+i.toNat*1) 0<ys.getD (ob+i.toNat*1) 0) then some ((X.ret,[Value.slice (some {block:=0,off:=oa}) la ca,Value.slice (some {block:=1,off:=ob}) lb cb,Value.int i64 (-1),Value.int i64 i],[some (Blk.is u32 xs ta),some (Blk.is u32 ys tb)])) else bif decide (0≤i)&&decide (i<((la:Nat):Int)) then bif (oa+i.toNat*1).blt xs.length then bif decide (0≤i)&&decide (i<((lb:Nat):Int)) then bif (ob+i.toNat*1).blt ys.length then bif decide (xs.getD (oa+i.toNat*1) 0>ys.getD (ob+i.toNat*1) 0) then some ((X.ret,[Value.slice (some {block:=0,off:=oa}) la ca,Value.slice (some {block:=1,off:=ob}) lb cb,Value.int i64 1,Value.int i64 i],[some (Blk.is u32 xs ta),some (Blk.is u32 ys tb)])) else cmp.lk .normal (cmp.st oa la ca ob lb cb (i64.wrap (i-1)) xs ta ys tb nx) else none else none else none else none else none else none else none else none else cmp.lk (.exit 0) (cmp.st oa la ca ob lb cb i xs ta ys tb nx):=by kernel_rfl
def cmp.stop0:=fun h0 h1 h2 h3 h4 h5=>Lq.stop (S2:=⟨gbuild [(4,Value.int i64 (-1))] 0 43,[(0,Blk.is u32 xs ta),(1,Blk.is u32 ys tb)],nx⟩) (N:=N) (f:=3) ⟨Ac,Ai,Ad,Ah⟩ Be (((((((cmp.rnd oa la ca ob lb cb i xs ta ys tb nx).ct h0).ct h1).ct h2).ct h3).ct h4).ct h5) (fun q=>by cases q) (fun h=>q_of (.cons ⟨rfl,bint⟩ .nil) (.cons ⟨rfl,(bname h (m:=0) rfl),rfl⟩ (.cons ⟨rfl,(bname h (m:=1) rfl),rfl⟩ .nil)))
def cmp.stop1:=fun h0 h1 h2 h3 h4 h5 h6 h7 h8 h9 h10=>Lq.stop (S2:=⟨gbuild [(4,Value.int i64 1)] 0 43,[(0,Blk.is u32 xs ta),(1,Blk.is u32 ys tb)],nx⟩) (N:=N) (f:=3) ⟨Ac,Ai,Ad,Ah⟩ Be ((((((((((((cmp.rnd oa la ca ob lb cb i xs ta ys tb nx).ct h0).ct h1).ct h2).ct h3).ct h4).cf h5).ct h6).ct h7).ct h8).ct h9).ct h10) (fun q=>by cases q) (fun h=>q_of (.cons ⟨rfl,bint⟩ .nil) (.cons ⟨rfl,(bname h (m:=0) rfl),rfl⟩ (.cons ⟨rfl,(bname h (m:=1) rfl),rfl⟩ .nil)))
def cmp.step2:=fun h0 h1 h2 h3 h4 h5 h6 h7 h8 h9 h10 (ih:Lq Tryz.prog N (Ag Tryz.f123 0) _ xe Se)=>Lq.toK (f:=3) ⟨Ac,Ai,Ad,Ah⟩ Be ((((((((((((cmp.rnd oa la ca ob lb cb i xs ta ys tb nx).ct h0).ct h1).ct h2).ct h3).ct h4).cf h5).ct h6).ct h7).ct h8).ct h9).cf h10) rfl rfl ih
def cmp.stop3:=fun h0=>Lq.endK (N:=N) (f:=3) ⟨Ac,Ai,Ad,Ah⟩ Be ((cmp.rnd oa la ca ob lb cb i xs ta ys tb nx).cf h0) (fun q=>by cases q) rfl rfl
end
def cmp.ok (oa la ob lb:Nat) (i:Int) (xs ys:List Int):Bool:=decide (i+1=(la:Int))&&(decide (la=lb)&&(Du oa la xs&&Du ob lb ys))
def cmp.r (v:Int) (xs:List Int) (ta:TypeId) (ys:List Int) (tb:TypeId) (nx:Nat):St:=⟨gbuild [(4,.int .i64 v)] 0 43,[(0,.is .u32 xs ta),(1,.is .u32 ys tb)],nx⟩
def cmp.tr (ok:Bool) (oa la ca ob lb cb k:Nat) (xs:List Int) (ta:TypeId) (ys:List Int) (tb:TypeId) (nx:Nat):LT:=
 .br (decide (nv (seg xs oa k)<nv (seg ys ob k))) (.got ok .ret (cmp.r (-1) xs ta ys tb nx)) (.br (decide (nv (seg xs oa k)>nv (seg ys ob k))) (.got ok .ret (cmp.r 1 xs ta ys tb nx)) (.got ok (.exit 0) (cmp.st oa la ca ob lb cb (-1) xs ta ys tb nx)))
def cmp.lt (oa la ca ob lb cb:Nat) (i:Int) (xs:List Int) (ta:TypeId) (ys:List Int) (tb:TypeId) (nx:Nat):LT:=cmp.tr (cmp.ok oa la ob lb i xs ys) oa la ca ob lb cb la xs ta ys tb nx
theorem cmp.go {N:Nat→Prop} (oa la ca ob lb cb:Nat) (xs:List Int) (ta:TypeId) (ys:List Int) (tb:TypeId) (nx:Nat) (h1:oa+la≤xs.length) (h2:ob+lb≤ys.length) (h3:la=lb) (h4:la≤4294967296) (hx:dig xs) (hy:dig ys):∀(k:Nat),k≤la→∀(x:X) (S':St),(cmp.tr true oa la ca ob lb cb k xs ta ys tb nx).at=some (x,S')→Lq Tryz.prog N (Ag Tryz.f123 0) (cmp.st oa la ca ob lb cb ((k:Int)-1) xs ta ys tb nx) x S'
 | 0,_,x,S',h=>by
  simp only [cmp.tr,Gw,nv,LT.at,Int.lt_irrefl,gt_iff_lt,decide_false,cond_false,cond_true,zS,zP] at h
  obtain ⟨rfl,rfl⟩:=h
  exact cmp.stop3 _ _ _ _ _ _ _ _ _ _ _ _ rfl
 | k + 1,hk,x,S',h=>by
  have e0:(((k+1:Nat):Int)-1)=(k:Int):=by omega
  have e1:i64.wrap ((k:Int)-1)=(k:Int)-1:=w64 (by omega) (by omega)
  have ea:oa+((k:Int)).toNat*1=oa+k:=by simp
  have eb:ob+((k:Int)).toNat*1=ob+k:=by simp
  have c1:(decide (0≤(k:Int))&&decide ((k:Int)<(la:Int)))=true:=dtrue2 (by omega) (by omega)
  have c2:(oa+((k:Int)).toNat*1).blt xs.length=true:=by rw [ea]; exact Fi (by omega)
  have c3:(decide (0≤(k:Int))&&decide ((k:Int)<(lb:Int)))=true:=dtrue2 (by omega) (by omega)
  have c4:(ob+((k:Int)).toNat*1).blt ys.length=true:=by rw [eb]; exact Fi (by omega)
  have hA0:=El (Fg hx oa k)
  have hB0:=El (Fg hy ob k)
  have hA:=Gz (Fg hx oa k)
  have hB:=Gz (Fg hy ob k)
  rw [Fh (by omega)] at hA hB
  have hp:=Gd k
  unfold cmp.tr at h
  rw [Fu (by omega),Fu (by omega)] at h
  have ih:=cmp.go (N:=N) oa la ca ob lb cb xs ta ys tb nx h1 h2 h3 h4 hx hy k (by omega) x S'
  unfold cmp.tr at ih
  rw [e0]
  rcases Int.lt_trichotomy (xs.getD (oa+k) 0) (ys.getD (ob+k) 0) with hc|hc|hc
  ·have hm:pw k*(xs.getD (oa+k) 0+1)≤pw k*ys.getD (ob+k) 0:=Int.mul_le_mul_of_nonneg_left (by omega) (by omega)
   rw [Int.mul_add,Int.mul_one] at hm
   rw [decide_eq_true (show nv (seg xs oa k)+pw k*xs.getD (oa+k) 0<nv (seg ys ob k)+pw k*ys.getD (ob+k) 0 by omega)] at h
   simp only [LT.at,cond_true,zS,zP] at h
   obtain ⟨rfl,rfl⟩:=h
   exact cmp.stop0 _ _ _ _ _ _ _ _ _ _ _ _ (dtrue (by omega)) c1 c2 c3 c4 (by rw [ea,eb]; exact dtrue hc)
  ·rw [hc] at h
   have q1:decide (nv (seg xs oa k)+pw k*ys.getD (ob+k) 0<nv (seg ys ob k)+pw k*ys.getD (ob+k) 0)=decide (nv (seg xs oa k)<nv (seg ys ob k)):=by
    by_cases hq:nv (seg xs oa k)<nv (seg ys ob k)
    ·rw [dtrue hq]; exact dtrue (by omega)
    ·rw [dfalse hq]; exact dfalse (by omega)
   have q2:decide (nv (seg xs oa k)+pw k*ys.getD (ob+k) 0>nv (seg ys ob k)+pw k*ys.getD (ob+k) 0)=decide (nv (seg xs oa k)>nv (seg ys ob k)):=by
    by_cases hq:nv (seg xs oa k)>nv (seg ys ob k)
    ·rw [dtrue hq]; exact dtrue (by omega)
    ·rw [dfalse hq]; exact dfalse (by omega)
   rw [q1,q2] at h
   refine cmp.step2 _ _ _ _ _ _ _ _ _ _ _ _ (dtrue (by omega)) c1 c2 c3 c4 (by rw [ea,eb,hc]; exact dfalse (by omega)) c1 c2 c3 c4 (by rw [ea,eb,hc]; exact dfalse (by omega)) ?_
   rw [e1]
   exact ih h
  ·have hm:pw k*(ys.getD (ob+k) 0+1)≤pw k*xs.getD (oa+k) 0:=Int.mul_le_mul_of_nonneg_left (by omega) (by omega)
   rw [Int.mul_add,Int.mul_one] at hm
   rw [decide_eq_false (show ¬nv (seg xs oa k)+pw k*xs.getD (oa+k) 0<nv (seg ys ob k)+pw k*ys.getD (ob+k) 0 by omega),decide_eq_true (show nv (seg xs oa k)+pw k*xs.getD (oa+k) 0>nv (seg ys ob k)+pw k*ys.getD (ob+k) 0 by omega)] at h
   simp only [LT.at,cond_true,cond_false,zS,zP] at h
   obtain ⟨rfl,rfl⟩:=h
   exact cmp.stop1 _ _ _ _ _ _ _ _ _ _ _ _ (dtrue (by omega)) c1 c2 c3 c4 (by rw [ea,eb]; exact dfalse (by omega)) c1 c2 c3 c4 (by rw [ea,eb]; exact dtrue hc)
theorem cmp.lp {N:Nat→Prop} (oa la ca ob lb cb:Nat) (i:Int) (xs:List Int) (ta:TypeId) (ys:List Int) (tb:TypeId) (nx:Nat) {x:X} {S':St} (h:(cmp.lt oa la ca ob lb cb i xs ta ys tb nx).at=some (x,S')):Lq Tryz.prog N (Ag Tryz.f123 0) (cmp.st oa la ca ob lb cb i xs ta ys tb nx) x S':=by
 unfold cmp.lt at h
 cases hok:cmp.ok oa la ob lb i xs ys with
 | false=>
  exfalso
  rw [hok] at h
  unfold cmp.tr at h
  simp only [LT.at] at h
  revert h
  cases decide (nv (seg xs oa la)<nv (seg ys ob la))<;>cases decide (nv (seg xs oa la)>nv (seg ys ob la))<;>simp
 | true=>
  rw [hok] at h
  simp only [cmp.ok,zB,zD,Eo] at hok
  obtain ⟨h1,h2,⟨h3,h4,h5⟩,h6,h7,h8⟩:=hok
  have:i=((la:Nat):Int)-1:=by omega
  subst this
  exact cmp.go oa la ca ob lb cb xs ta ys tb nx h3 h6 h2 h4 h5 h8 la (Nat.le_refl _) x S' h
def cmp.t:LSpec:=fun S=>match RX.nth S.tmps 0,RX.nth S.tmps 1,RX.nth S.tmps 5,RX.look S.heap 0,RX.look S.heap 1 with
 | .slice (some ⟨0,oa,none⟩) la ca,.slice (some ⟨1,ob,none⟩) lb cb,.int .i64 i,some (.is .u32 xs ta),some (.is .u32 ys tb)=>bif Nat.beq S.tmps.length 43 then some (cmp.lt oa la ca ob lb cb i xs ta ys tb S.nxt) else none
 |_,_,_,_,_=>none
theorem cmp.lok {N:Nat→Prop} :LOKn Tryz.prog N (Ag Tryz.f123 0) (cmp.t):=by
 refine Ge fun S lt x S' ht hat=> ?_
 unfold cmp.t at ht
 split at ht
 ·rename_i oa la ca ob lb cb i xs ta ys tb h0 h1 h5 g0 g1
  cases hb:Nat.beq S.tmps.length 43 with
  |false=>rw [hb] at ht; cases ht
  | true=>
   rw [hb] at ht
   injection ht with ht
   subst ht
   have hb:=zE hb
   exact .enter (fun h=>Gr hb (.cons ⟨h0,bnth h h0⟩ (.cons ⟨h1,bnth h h1⟩ (.cons ⟨h5,bnth h h5⟩ .nil))) (.cons ⟨g0,bname h g0,rfl⟩ (.cons ⟨g1,bname h g1,rfl⟩ .nil))) (cmp.lp _ _ _ _ _ _ _ _ _ _ _ _ hat)
 ·cases ht
def cmpI (la lb:Nat) (a b:Int):Int:=if la=lb then (if a<b then -1 else if a>b then 1 else 0) else (la:Int)-lb
def compare.sp:HSpec
 |[.slice (some ⟨0,oa,none⟩) la ca,.slice (some ⟨1,ob,none⟩) lb cb],[.is .u32 xs 144,.is .u32 ys 144]=>some (Du oa la xs&&Du ob lb ys,.int .i64 (cmpI la lb (nv (seg xs oa la)) (nv (seg ys ob lb))),[.is .u32 xs 144,.is .u32 ys 144])
 |_,_=>none
theorem compare.run (oa la ca ob lb cb:Nat) (xs ys:List Int):xfn Tryz.prog ⟨[],[],[]⟩ [(0,cmp.t)] 10 Tryz.f123 [.slice (some ⟨0,oa,none⟩) la ca,.slice (some ⟨1,ob,none⟩) lb cb] [.is .u32 xs 144,.is .u32 ys 144]=
 bif (la:Int) !=(lb:Int) then some (.int .i64 (i64.wrap ((la:Int)-lb)),[.is .u32 xs 144,.is .u32 ys 144]) else bif decide (nv (seg xs oa la)<nv (seg ys ob la)) then bif cmp.ok oa la ob lb (i64.wrap ((la:Int)-1)) xs ys then some (.int .i64 (-1),[.is .u32 xs 144,.is .u32 ys 144]) else none else bif decide (nv (seg xs oa la)>nv (seg ys ob la)) then bif cmp.ok oa la ob lb (i64.wrap ((la:Int)-1)) xs ys then some (.int .i64 1,[.is .u32 xs 144,.is .u32 ys 144]) else none else bif cmp.ok oa la ob lb (i64.wrap ((la:Int)-1)) xs ys then some (.int .i64 0,[.is .u32 xs 144,.is .u32 ys 144]) else none:=by kernel_rfl
theorem compare.ok:SOK Tryz.prog 123 compare.sp:=by
 refine Cu (E:=⟨[],[],[]⟩) (L:=[(0,cmp.t)]) ⟨Ac,Ai,Ad,Ah⟩ 10 Tryz.func123 (by decide) rfl (Ga rfl rfl cmp.lok) fun vs bl v bl' h=> ?_
 unfold compare.sp at h
 split at h
 ·rename_i oa la ca ob lb cb xs ys
  simp only [zS,zP,zB,Eo] at h
  obtain ⟨⟨⟨h1,h2,h3⟩,h4,h5,h6⟩,rfl,rfl⟩:=h
  refine ⟨(compare.run oa la ca ob lb cb xs ys).trans ?_,by simp [okV,Nat.blt],clo_spec 8 _ rfl,Ay rfl⟩
  unfold cmpI
  by_cases hl:la=lb
  ·subst hl
   have hok:cmp.ok oa la ob la (i64.wrap ((la:Int)-1)) xs ys=true:=by
    rw [w64 (by omega) (by omega)]
    simp only [cmp.ok,zB,zD,Eo]
    exact ⟨by omega,trivial,⟨h1,h2,h3⟩,h4,h5,h6⟩
   rw [bne_self_eq_false,cond_false,hok,if_pos rfl]
   by_cases q1:nv (seg xs oa la)<nv (seg ys ob la)
   ·rw [dtrue q1,if_pos q1]; rfl
   ·by_cases q2:nv (seg xs oa la)>nv (seg ys ob la)
    ·rw [dfalse q1,dtrue q2,if_neg q1,if_pos q2]; rfl
    ·rw [dfalse q1,dfalse q2,if_neg q1,if_neg q2]; rfl
  ·rw [Em (show (la:Int)≠lb by omega),cond_true,if_neg hl,w64 (by omega) (by omega)]
 ·cases h
end Go.Proofs.YtphlckkbihmlnaaGreatDoor.G
end
section
namespace Go.Proofs.YtphlckkbihmlnaaGreatDoor.G
open Go RX
theorem LH:∀(k:Nat) (v:Int),dg (k+1) v=dg k v++[v/pw k%4294967296]
 |0,v=>by simp [dg,If]
 | k+1,v=>by
  have ih:=LH k (v/4294967296)
  rw [Int.ediv_ediv,if_neg (by omega),Int.sub_zero,←GS] at ih
  rw [dg,ih]
  rfl
theorem Kd:∀(k:Nat) (v z:Int),dg k (v+pw k*z)=dg k v
 |0,v,z=>rfl
 | k+1,v,z=>by
  have e1:(v+pw (k+1)*z)%4294967296=v%4294967296:=by rw [GS,Int.mul_assoc]; omega
  have e2:(v+pw (k+1)*z)/4294967296=v/4294967296+pw k*z:=by rw [GS,Int.mul_assoc]; omega
  simp only [dg,e1,e2,Kd k]
theorem MZ (k:Nat) (v z:Int):(v+pw k*z)/pw k=v/pw k+z:=Int.add_mul_ediv_left _ _ (by have:=Gd k; omega)
theorem H1 (k:Nat) (v z:Int):(v+pw k*z)/pw (k+1)=(v/pw k+z)/4294967296:=by
 rw [GS,Int.mul_comm 4294967296,←MZ k v z,Int.ediv_ediv,if_neg (by have:=Gd k; omega),Int.sub_zero]
def ap (k:Nat) (v:Int) (n:Nat):List Int:=dg k v++List.replicate (n-k) 0
theorem Ha {k n:Nat} (v:Int) (h:k≤n):(ap k v n).length=n:=by simp [ap,Di]; omega
theorem Oh (v:Int) (n:Nat):ap 0 v n=List.replicate n 0:=rfl
theorem Iw {k n:Nat} (h:k<n) (v z:Int):(ap k v n).set k ((v/pw k+z)%4294967296)=ap (k+1) (v+pw k*z) n:=by
 obtain ⟨d,rfl⟩:=Nat.exists_eq_add_of_lt h
 unfold ap
 rw [show k+d+1-k=d+1 from by omega,show k+d+1-(k+1)=d from by omega,LH,Kd,MZ,List.replicate_succ]
 have hl:=Di k v
 rw [List.set_append_right _ _ (by omega),hl,Nat.sub_self,List.set_cons_zero,List.append_assoc]
 rfl
theorem Oi (k:Nat) (v:Int):ap k v k=dg k v:=by simp [ap]
def sg (xs:List Int) (o l k:Nat):Int:=nv (seg xs o (min k l))
theorem ME {xs:List Int} {o l k:Nat} (h:o+l≤xs.length):sg xs o l (k+1)=sg xs o l k+pw k*(if k<l then xs.getD (o+k) 0 else 0):=by
 unfold sg
 by_cases hk:k<l
 ·rw [if_pos hk,Nat.min_eq_left (by omega),Nat.min_eq_left (by omega),Fu (by omega)]
 ·rw [if_neg hk,Nat.min_eq_right (by omega),Nat.min_eq_right (by omega)]; simp
theorem O7 {xs:List Int} (hd:dig xs) {o l:Nat} (h:o+l≤xs.length) (k:Nat):0≤sg xs o l k∧sg xs o l k<pw k:=by
 refine ⟨El (Fg hd _ _),?_⟩
 have h1:=Gz (Fg hd o (min k l))
 rw [Fh (by omega)] at h1
 have h2:pw (min k l)≤pw k:=by
  have:=Nat.pow_le_pow_right (show 0<4294967296 by decide) (Nat.min_le_left k l)
  simp only [pw]; omega
 exact Int.lt_of_lt_of_le h1 h2
theorem MF (xs:List Int) (o l k:Nat) (h:l≤k):sg xs o l k=nv (seg xs o l):=by unfold sg; rw [Nat.min_eq_right h]
theorem QL (b:BitVec 32):u32.wrap ((b.toNat:Nat):Int)=(b.toNat:Int):=u32of (by omega) (by have:=b.isLt; omega)
theorem bo_and (x y:Int):Ew .and .u32 x y=((BitVec.ofInt 32 x&&&BitVec.ofInt 32 y).toNat:Int):=QL _
theorem bo_or (x y:Int):Ew .or .u32 x y=((BitVec.ofInt 32 x|||BitVec.ofInt 32 y).toNat:Int):=QL _
theorem bo_xor (x y:Int):Ew .xor .u32 x y=((BitVec.ofInt 32 x^^^BitVec.ofInt 32 y).toNat:Int):=QL _
theorem Rb (b:BitVec 32):BitVec.ofInt 32 ((b.toNat:Nat):Int)=b:=by simp
theorem Px:BitVec.ofInt 32 (if u32.signed=true then -1 else u32.max)=BitVec.allOnes 32:=by decide
theorem Lg {x:Int} (h:0≤x) (h':x<4294967296):(BitVec.ofInt 32 x).msb=decide (2147483648≤x):=by
 obtain ⟨n,rfl⟩:=Int.eq_ofNat_of_zero_le h
 rw [BitVec.msb_eq_decide]
 simp only [BitVec.ofInt_natCast,BitVec.toNat_ofNat]
 rw [Nat.mod_eq_of_lt (by omega)]
 by_cases hn:2147483648≤n
 ·rw [decide_eq_true (by omega),decide_eq_true (by omega)]
 ·rw [decide_eq_false (by omega),decide_eq_false (by omega)]
theorem borrow {x y b:Int} (hx:0≤x) (hx':x<4294967296) (hy:0≤y) (hy':y<4294967296) (hb:0≤b) (hb':b≤1):
  (Ew .or .u32 (Ew .and .u32 (Ew .xor .u32 (if u32.signed=true then -1 else u32.max) x) y) (Ew .and .u32 (Ew .xor .u32 (if u32.signed=true then -1 else u32.max) (Ew .xor .u32 x y)) (u32.wrap (u32.wrap (x-y)-b)))).fdiv (2^min (Int.toNat 31) u32.bits)= -((x-y-b)/4294967296):=by
 simp only [bo_and,bo_or,bo_xor,Rb,Px]
 have ed:u32.wrap (u32.wrap (x-y)-b)=(x-y-b)%4294967296:=by rw [wu32,wu32]; omega
 rw [ed]
 have hd0:=Int.emod_nonneg (x-y-b) (show (4294967296:Int)≠0 by decide)
 have hd1:=Int.emod_lt_of_pos (x-y-b) (show (0:Int)<4294967296 by decide)
 generalize hT:(((BitVec.allOnes 32^^^BitVec.ofInt 32 x)&&&BitVec.ofInt 32 y)|||((BitVec.allOnes 32^^^(BitVec.ofInt 32 x^^^BitVec.ofInt 32 y))&&&BitVec.ofInt 32 ((x-y-b)%4294967296)))=t
 have hm:t.msb=((!decide (2147483648≤x)&&decide (2147483648≤y))||(!(decide (2147483648≤x)^^decide (2147483648≤y))&&decide (2147483648≤(x-y-b)%4294967296))):=by
  rw [←hT]
  simp only [BitVec.msb_or,BitVec.msb_and,BitVec.msb_xor,BitVec.msb_allOnes (show 0<32 by decide),Lg hx hx',Lg hy hy',Lg hd0 hd1,Bool.true_xor]
 have ht:((t.toNat:Nat):Int).fdiv (2^min (Int.toNat 31) u32.bits)=if t.msb=true then 1 else 0:=by
  have hlt:=t.isLt
  rw [Int.fdiv_eq_ediv_of_nonneg _ (by decide),show ((2:Int)^min (Int.toNat 31) u32.bits)=2147483648 from rfl,BitVec.msb_eq_decide]
  split
  ·rename_i h; have:=of_decide_eq_true h; omega
  ·rename_i h; have:¬_:=fun q=>h (decide_eq_true q); omega
 rw [ht,hm]
 by_cases q1:2147483648≤x<;>by_cases q2:2147483648≤y<;>by_cases q3:2147483648≤(x-y-b)%4294967296<;>simp only [q1,q2,q3,decide_true,decide_false,zN,Bool.not_false,Bool.true_and,Bool.false_and,Bool.and_true,Bool.and_false,Bool.or_true,Bool.or_false,Bool.true_or,Bool.false_or,Bool.xor_true,Bool.xor_false,Bool.true_xor,Bool.false_xor,if_true,if_false,Bool.false_eq_true]<;>omega
end Go.Proofs.YtphlckkbihmlnaaGreatDoor.G
end
section
namespace Go.Proofs.YtphlckkbihmlnaaGreatDoor.G
open Go Go.Proofs RX
theorem Im {x y c:Int} (hx:0≤x) (hx':x<4294967296) (hy:0≤y) (hy':y<4294967296) (hc:0≤c) (hc':c≤1):u64.wrap (u64.wrap (u64.wrap x+u64.wrap y)+u64.wrap c)=x+y+c:=by
 rw [u64of (n:=x) (by omega) (by omega),u64of (n:=y) (by omega) (by omega),u64of (n:=c) (by omega) (by omega),u64of (n:=x+y) (by omega) (by omega),u64of (by omega) (by omega)]
theorem Jq {v:Int} (h:0≤v) (h':v<8589934592):u32.wrap (v.fdiv (2^min (Int.toNat 32) u64.bits))=v/4294967296:=by
 rw [Int.fdiv_eq_ediv_of_nonneg _ (by decide),show ((2:Int)^min (Int.toNat 32) u64.bits)=4294967296 from rfl,u32of (by omega) (by omega)]
def sm (xs:List Int) (oa la:Nat) (ys:List Int) (ob lb k:Nat):Int:=sg xs oa la k+sg ys ob lb k
def df (xs:List Int) (oa la:Nat) (ys:List Int) (ob lb k:Nat):Int:=sg xs oa la k-sg ys ob lb k
theorem Qg {xs ys:List Int} {oa la ob lb k:Nat} (h:oa+la≤xs.length) (h':ob+lb≤ys.length):sm xs oa la ys ob lb (k+1)=sm xs oa la ys ob lb k+pw k*((if k<la then xs.getD (oa+k) 0 else 0)+(if k<lb then ys.getD (ob+k) 0 else 0)):=by
 unfold sm
 rw [ME h,ME h',Int.mul_add]; omega
theorem df_succ {xs ys:List Int} {oa la ob lb k:Nat} (h:oa+la≤xs.length) (h':ob+lb≤ys.length):df xs oa la ys ob lb (k+1)=df xs oa la ys ob lb k+pw k*((if k<la then xs.getD (oa+k) 0 else 0)-(if k<lb then ys.getD (ob+k) 0 else 0)):=by
 unfold df
 rw [ME h,ME h',Int.mul_sub]; omega
theorem Mb {xs ys:List Int} (hx:dig xs) (hy:dig ys) {oa la ob lb:Nat} (h:oa+la≤xs.length) (h':ob+lb≤ys.length) (k:Nat):0≤sm xs oa la ys ob lb k/pw k∧sm xs oa la ys ob lb k/pw k≤1:=by
 have h1:=O7 hx h k
 have h2:=O7 hy h' k
 have hp:=Gd k
 unfold sm
 refine ⟨Int.ediv_nonneg (by omega) (by omega),?_⟩
 have:(sg xs oa la k+sg ys ob lb k)/pw k<2:=Int.ediv_lt_of_lt_mul hp (by omega)
 omega
theorem Ry {xs ys:List Int} (hx:dig xs) (hy:dig ys) {oa la ob lb:Nat} (h:oa+la≤xs.length) (h':ob+lb≤ys.length) (k:Nat): -1≤df xs oa la ys ob lb k/pw k∧df xs oa la ys ob lb k/pw k≤0:=by
 have h1:=O7 hx h k
 have h2:=O7 hy h' k
 have hp:=Gd k
 unfold df
 constructor
 ·exact (Int.le_ediv_iff_mul_le hp).2 (by omega)
 ·have:(sg xs oa la k-sg ys ob lb k)/pw k<1:=Int.ediv_lt_of_lt_mul hp (by omega)
  omega
def J9 (oa la ob lb n:Nat) (cr z i:Int) (xs ys out:List Int):Bool:=decide (i=0)&&(decide (z=(la:Int))&&(decide (cr=0)&&(decide (out=List.replicate n 0)&&(Nat.ble la n&&(Du oa la xs&&Du ob lb ys)))))
section
variable {N:Nat→Prop} {xe:X} {Se:St} (op lp cp ob lb cb n m:Nat) (cr:Int) (oa la ca:Nat) (z i:Int) (xs:List Int) (ta:TypeId) (ys:List Int) (tb:TypeId) (out:List Int) (tc:TypeId) (nx:Nat)
abbrev add0.st:St:=⟨gbuild [(0,.slice (some ⟨0,op,none⟩) lp cp),(1,.slice (some ⟨1,ob,none⟩) lb cb),(5,.slice (some ⟨146,0,none⟩) n m),(6,.int .u32 cr),(21,.slice (some ⟨0,oa,none⟩) la ca),(22,.int .i64 z),(23,.int .i64 i)] 0 54,[(0,.is .u32 xs ta),(1,.is .u32 ys tb),(146,.is .u32 out tc)],nx⟩
abbrev add0.lk:=RX.lk [0,1,5,6,21,22,23] [0,1,146]
theorem add0.rnd:rd Tryz.prog ⟨[],[(136,Tryz.f136)],[]⟩ [] 5 (Ag Tryz.f122 0) (add0.st op lp cp ob lb cb n m cr oa la ca z i xs ta ys tb out tc nx) 54 [0,1,5,6,21,22,23] [0,1,146]=
 bif decide (i<z) then bif decide (0≤i)&&decide (i<((la:Nat):Int)) then bif (oa+i.toNat*1).blt xs.length then bif decide (i<((lb:Nat):Int)) then bif decide (0≤i)&&decide (i<((lb:Nat):Int)) then bif (ob+i.toNat*1).blt ys.length then bif decide (0≤i)&&decide (i<((n:Nat):Int)) then bif (0+i.toNat*1).blt out.length then add0.lk .normal (add0.st op lp cp ob lb cb n m (u32.wrap ((u64.wrap (u64.wrap (u64.wrap (xs.getD (oa+i.toNat*1) 0)+u64.wrap (ys.getD (ob+i.toNat*1) 0))+u64.wrap cr)).fdiv (2^min (Int.toNat 32) u64.bits))) oa la ca z (i64.wrap (i+1)) xs ta ys tb (out.set (0+i.toNat*1) (u32.wrap (u64.wrap (u64.wrap (u64.wrap (xs.getD (oa+i.toNat*1) 0)+u64.wrap (ys.getD (ob+i.toNat*1) 0))+u64.wrap cr)))) tc nx) else none else none else none else none else bif decide (0≤i)&&decide (i<((n:Nat):Int)) then bif (0+i.toNat*1).blt out.length then add0.lk .normal (add0.st op lp cp ob lb cb n m (u32.wrap ((u64.wrap (u64.wrap (u64.wrap (xs.getD (oa+i.toNat*1) 0)+u64.wrap 0)+u64.wrap cr)).fdiv (2^min (Int.toNat 32) u64.bits))) oa la ca z (i64.wrap (i+1)) xs ta ys tb (out.set (0+i.toNat*1) (u32.wrap (u64.wrap (u64.wrap (u64.wrap (xs.getD (oa+i.toNat*1) 0)+u64.wrap 0)+u64.wrap cr)))) tc nx) else none else none else none else none else add0.lk (.exit 0) (add0.st op lp cp ob lb cb n m cr oa la ca z i xs ta ys tb out tc nx):=by kernel_rfl
def add0.step0:=fun h0 h1 h2 h3 h4 h5 h6 h7 (ih:Lq Tryz.prog N (Ag Tryz.f122 0) _ xe Se)=>Lq.toK (f:=5) ⟨Ac,Fl ⟨Tryz.func136,by decide,rfl⟩ Ai,Ad,Ah⟩ Be (((((((((add0.rnd op lp cp ob lb cb n m cr oa la ca z i xs ta ys tb out tc nx).ct h0).ct h1).ct h2).ct h3).ct h4).ct h5).ct h6).ct h7) rfl rfl ih
def add0.step1:=fun h0 h1 h2 h3 h4 h5 (ih:Lq Tryz.prog N (Ag Tryz.f122 0) _ xe Se)=>Lq.toK (f:=5) ⟨Ac,Fl ⟨Tryz.func136,by decide,rfl⟩ Ai,Ad,Ah⟩ Be (((((((add0.rnd op lp cp ob lb cb n m cr oa la ca z i xs ta ys tb out tc nx).ct h0).ct h1).ct h2).cf h3).ct h4).ct h5) rfl rfl ih
def add0.stop2:=fun h0=>Lq.endK (N:=N) (f:=5) ⟨Ac,Fl ⟨Tryz.func136,by decide,rfl⟩ Ai,Ad,Ah⟩ Be ((add0.rnd op lp cp ob lb cb n m cr oa la ca z i xs ta ys tb out tc nx).cf h0) (fun q=>by cases q) rfl rfl
end
def add0.lt (op lp cp ob lb cb n m:Nat) (cr:Int) (oa la ca:Nat) (z i:Int) (xs:List Int) (ta:TypeId) (ys:List Int) (tb:TypeId) (out:List Int) (tc:TypeId) (nx:Nat):LT:= .got (J9 oa la ob lb n cr z i xs ys out) (.exit 0) (add0.st op lp cp ob lb cb n m (sm xs oa la ys ob lb la/pw la) oa la ca z z xs ta ys tb (ap la (sm xs oa la ys ob lb la) n) tc nx)
theorem add0.go {N:Nat→Prop} (op lp cp oa la ca ob lb cb n m:Nat) (xs:List Int) (ta:TypeId) (ys:List Int) (tb tc:TypeId) (nx:Nat) (h1:oa+la≤xs.length) (h2:ob+lb≤ys.length) (h3:la≤4294967296) (h4:lb≤4294967296) (hn:la≤n) (hx:dig xs) (hy:dig ys):∀(j k:Nat),k+j=la→Lq Tryz.prog N (Ag Tryz.f122 0) (add0.st op lp cp ob lb cb n m (sm xs oa la ys ob lb k/pw k) oa la ca (la:Int) (k:Int) xs ta ys tb (ap k (sm xs oa la ys ob lb k) n) tc nx) (.exit 0) (add0.st op lp cp ob lb cb n m (sm xs oa la ys ob lb la/pw la) oa la ca (la:Int) (la:Int) xs ta ys tb (ap la (sm xs oa la ys ob lb la) n) tc nx)
 | 0,k,h=>by
  obtain rfl:k=la:=by omega
  exact add0.stop2 _ _ _ _ _ _ _ _ _ _ _ _ _ _ _ _ _ _ _ _ _ (dfalse (by omega))
 | j +1,k,h=>by
  have e1:i64.wrap ((k:Int)+1)=((k+1:Nat):Int):=by rw [w64 (by omega) (by omega)]; omega
  have ea:oa+((k:Int)).toNat*1=oa+k:=by simp
  have eb:ob+((k:Int)).toNat*1=ob+k:=by simp
  have e0:0+((k:Int)).toNat*1=k:=by simp
  have hkn:k<n:=by omega
  have c1:(decide (0≤(k:Int))&&decide ((k:Int)<(la:Int)))=true:=dtrue2 (by omega) (by omega)
  have c2:(oa+((k:Int)).toNat*1).blt xs.length=true:=by rw [ea]; exact Fi (by omega)
  have c5:(decide (0≤(k:Int))&&decide ((k:Int)<(n:Int)))=true:=dtrue2 (by omega) (by omega)
  have c6:(0+((k:Int)).toNat*1).blt (ap k (sm xs oa la ys ob lb k) n).length=true:=by rw [e0,Ha _ (by omega)]; exact Fi (by omega)
  have hX:=Fj hx (oa+k)
  have hY:=Fj hy (ob+k)
  have hC:=Mb hx hy h1 h2 k
  have hs:=Qg (k:=k) h1 h2
  rw [if_pos (show k<la by omega)] at hs
  have ih:=add0.go (N:=N) op lp cp oa la ca ob lb cb n m xs ta ys tb tc nx h1 h2 h3 h4 hn hx hy j (k+1) (by omega)
  by_cases hk:k<lb
  ·rw [if_pos hk] at hs
   refine add0.step0 _ _ _ _ _ _ _ _ _ _ _ _ _ _ _ _ _ _ _ _ _ (dtrue (by omega)) c1 c2 (dtrue (by omega)) (dtrue2 (by omega) (by omega)) (by rw [eb]; exact Fi (by omega)) c5 c6 ?_
   rw [ea,eb,e0,e1,Im hX.1 hX.2 hY.1 hY.2 hC.1 hC.2,Jq (by omega) (by omega),wu32]
   rw [hs,H1,←Iw hkn] at ih
   rw [show xs.getD (oa+k) 0+ys.getD (ob+k) 0+sm xs oa la ys ob lb k/pw k=sm xs oa la ys ob lb k/pw k+(xs.getD (oa+k) 0+ys.getD (ob+k) 0) by omega]
   exact ih
  ·rw [if_neg hk] at hs
   refine add0.step1 _ _ _ _ _ _ _ _ _ _ _ _ _ _ _ _ _ _ _ _ _ (dtrue (by omega)) c1 c2 (dfalse (by omega)) c5 c6 ?_
   rw [ea,e0,e1,Im hX.1 hX.2 (Int.le_refl 0) (by decide) hC.1 hC.2,Jq (by omega) (by omega),wu32]
   rw [hs,H1,←Iw hkn] at ih
   rw [show xs.getD (oa+k) 0+0+sm xs oa la ys ob lb k/pw k=sm xs oa la ys ob lb k/pw k+(xs.getD (oa+k) 0+0) by omega]
   exact ih
theorem add0.lp {N:Nat→Prop} (op lp cp ob lb cb n m:Nat) (cr:Int) (oa la ca:Nat) (z i:Int) (xs:List Int) (ta:TypeId) (ys:List Int) (tb:TypeId) (out:List Int) (tc:TypeId) (nx:Nat) {x:X} {S':St} (h:(add0.lt op lp cp ob lb cb n m cr oa la ca z i xs ta ys tb out tc nx).at=some (x,S')):Lq Tryz.prog N (Ag Tryz.f122 0) (add0.st op lp cp ob lb cb n m cr oa la ca z i xs ta ys tb out tc nx) x S':=by
 obtain ⟨h1,rfl,rfl⟩:=Fw h
 simp only [J9,zB,Nat.ble_eq,zD,Eo] at h1
 obtain ⟨rfl,rfl,rfl,rfl,h5,⟨h6,h7,h8⟩,h9,h10,h11⟩:=h1
 have e:sm xs oa la ys ob lb 0/pw 0=0:=by simp [sm,sg,Gw,nv]
 have:=add0.go (N:=N) op lp cp oa la ca ob lb cb n m xs ta ys tb tc nx h6 h9 h7 h10 h5 h8 h11 la 0 (by omega)
 rw [e,Oh] at this
 exact this
def add0.t:LSpec:=fun S=>match RX.nth S.tmps 0,RX.nth S.tmps 1,RX.nth S.tmps 5,RX.nth S.tmps 6,RX.nth S.tmps 21,RX.nth S.tmps 22,RX.nth S.tmps 23,RX.look S.heap 0,RX.look S.heap 1,RX.look S.heap 146 with
 | .slice (some ⟨0,op,none⟩) lp cp,.slice (some ⟨1,ob,none⟩) lb cb,.slice (some ⟨146,0,none⟩) n m,.int .u32 cr,.slice (some ⟨0,oa,none⟩) la ca,.int .i64 z,.int .i64 i,some (.is .u32 xs ta),some (.is .u32 ys tb),some (.is .u32 out tc)=>bif Nat.beq S.tmps.length 54 then some (add0.lt op lp cp ob lb cb n m cr oa la ca z i xs ta ys tb out tc S.nxt) else none
 |_,_,_,_,_,_,_,_,_,_=>none
theorem add0.lok {N:Nat→Prop} :LOKn Tryz.prog N (Ag Tryz.f122 0) (add0.t):=by
 refine Ge fun S lt x S' ht hat=> ?_
 unfold add0.t at ht
 split at ht
 ·rename_i op lp cp ob lb cb n m cr oa la ca z i xs ta ys tb out tc h0 h1 h5 h6 h21 h22 h23 g0 g1 g146
  cases hb:Nat.beq S.tmps.length 54 with
  |false=>rw [hb] at ht; cases ht
  | true=>
   rw [hb] at ht
   injection ht with ht
   subst ht
   have hb:=zE hb
   exact .enter (fun h=>Gr hb (.cons ⟨h0,bnth h h0⟩ (.cons ⟨h1,bnth h h1⟩ (.cons ⟨h5,bnth h h5⟩ (.cons ⟨h6,bnth h h6⟩ (.cons ⟨h21,bnth h h21⟩ (.cons ⟨h22,bnth h h22⟩ (.cons ⟨h23,bnth h h23⟩ .nil))))))) (.cons ⟨g0,bname h g0,rfl⟩ (.cons ⟨g1,bname h g1,rfl⟩ (.cons ⟨g146,bname h g146,rfl⟩ .nil)))) (add0.lp _ _ _ _ _ _ _ _ _ _ _ _ _ _ _ _ _ _ _ _ _ hat)
 ·cases ht
section
variable {N:Nat→Prop} {xe:X} {Se:St} (op lp cp ob lb cb n m:Nat) (cr:Int) (oa la ca:Nat) (z i:Int) (ys:List Int) (tb:TypeId) (xs:List Int) (ta:TypeId) (out:List Int) (tc:TypeId) (nx:Nat)
abbrev add1.st:St:=⟨gbuild [(0,.slice (some ⟨1,op,none⟩) lp cp),(1,.slice (some ⟨0,ob,none⟩) lb cb),(5,.slice (some ⟨210,0,none⟩) n m),(6,.int .u32 cr),(21,.slice (some ⟨1,oa,none⟩) la ca),(22,.int .i64 z),(23,.int .i64 i)] 0 54,[(0,.is .u32 ys tb),(1,.is .u32 xs ta),(210,.is .u32 out tc)],nx⟩
abbrev add1.lk:=RX.lk [0,1,5,6,21,22,23] [0,1,210]
theorem add1.rnd:rd Tryz.prog ⟨[],[(136,Tryz.f136)],[]⟩ [] 5 (Ag Tryz.f122 0) (add1.st op lp cp ob lb cb n m cr oa la ca z i ys tb xs ta out tc nx) 54 [0,1,5,6,21,22,23] [0,1,210]=
 bif decide (i<z) then bif decide (0≤i)&&decide (i<((la:Nat):Int)) then bif (oa+i.toNat*1).blt xs.length then bif decide (i<((lb:Nat):Int)) then bif decide (0≤i)&&decide (i<((lb:Nat):Int)) then bif (ob+i.toNat*1).blt ys.length then bif decide (0≤i)&&decide (i<((n:Nat):Int)) then bif (0+i.toNat*1).blt out.length then add1.lk .normal (add1.st op lp cp ob lb cb n m (u32.wrap ((u64.wrap (u64.wrap (u64.wrap (xs.getD (oa+i.toNat*1) 0)+u64.wrap (ys.getD (ob+i.toNat*1) 0))+u64.wrap cr)).fdiv (2^min (Int.toNat 32) u64.bits))) oa la ca z (i64.wrap (i+1)) ys tb xs ta (out.set (0+i.toNat*1) (u32.wrap (u64.wrap (u64.wrap (u64.wrap (xs.getD (oa+i.toNat*1) 0)+u64.wrap (ys.getD (ob+i.toNat*1) 0))+u64.wrap cr)))) tc nx) else none else none else none else none else bif decide (0≤i)&&decide (i<((n:Nat):Int)) then bif (0+i.toNat*1).blt out.length then add1.lk .normal (add1.st op lp cp ob lb cb n m (u32.wrap ((u64.wrap (u64.wrap (u64.wrap (xs.getD (oa+i.toNat*1) 0)+u64.wrap 0)+u64.wrap cr)).fdiv (2^min (Int.toNat 32) u64.bits))) oa la ca z (i64.wrap (i+1)) ys tb xs ta (out.set (0+i.toNat*1) (u32.wrap (u64.wrap (u64.wrap (u64.wrap (xs.getD (oa+i.toNat*1) 0)+u64.wrap 0)+u64.wrap cr)))) tc nx) else none else none else none else none else add1.lk (.exit 0) (add1.st op lp cp ob lb cb n m cr oa la ca z i ys tb xs ta out tc nx):=by kernel_rfl
def add1.step0:=fun h0 h1 h2 h3 h4 h5 h6 h7 (ih:Lq Tryz.prog N (Ag Tryz.f122 0) _ xe Se)=>Lq.toK (f:=5) ⟨Ac,Fl ⟨Tryz.func136,by decide,rfl⟩ Ai,Ad,Ah⟩ Be (((((((((add1.rnd op lp cp ob lb cb n m cr oa la ca z i ys tb xs ta out tc nx).ct h0).ct h1).ct h2).ct h3).ct h4).ct h5).ct h6).ct h7) rfl rfl ih
def add1.step1:=fun h0 h1 h2 h3 h4 h5 (ih:Lq Tryz.prog N (Ag Tryz.f122 0) _ xe Se)=>Lq.toK (f:=5) ⟨Ac,Fl ⟨Tryz.func136,by decide,rfl⟩ Ai,Ad,Ah⟩ Be (((((((add1.rnd op lp cp ob lb cb n m cr oa la ca z i ys tb xs ta out tc nx).ct h0).ct h1).ct h2).cf h3).ct h4).ct h5) rfl rfl ih
def add1.stop2:=fun h0=>Lq.endK (N:=N) (f:=5) ⟨Ac,Fl ⟨Tryz.func136,by decide,rfl⟩ Ai,Ad,Ah⟩ Be ((add1.rnd op lp cp ob lb cb n m cr oa la ca z i ys tb xs ta out tc nx).cf h0) (fun q=>by cases q) rfl rfl
end
def add1.lt (op lp cp ob lb cb n m:Nat) (cr:Int) (oa la ca:Nat) (z i:Int) (ys:List Int) (tb:TypeId) (xs:List Int) (ta:TypeId) (out:List Int) (tc:TypeId) (nx:Nat):LT:= .got (J9 oa la ob lb n cr z i xs ys out) (.exit 0) (add1.st op lp cp ob lb cb n m (sm xs oa la ys ob lb la/pw la) oa la ca z z ys tb xs ta (ap la (sm xs oa la ys ob lb la) n) tc nx)
theorem add1.go {N:Nat→Prop} (op lp cp oa la ca ob lb cb n m:Nat) (xs:List Int) (ta:TypeId) (ys:List Int) (tb tc:TypeId) (nx:Nat) (h1:oa+la≤xs.length) (h2:ob+lb≤ys.length) (h3:la≤4294967296) (h4:lb≤4294967296) (hn:la≤n) (hx:dig xs) (hy:dig ys):∀(j k:Nat),k+j=la→Lq Tryz.prog N (Ag Tryz.f122 0) (add1.st op lp cp ob lb cb n m (sm xs oa la ys ob lb k/pw k) oa la ca (la:Int) (k:Int) ys tb xs ta (ap k (sm xs oa la ys ob lb k) n) tc nx) (.exit 0) (add1.st op lp cp ob lb cb n m (sm xs oa la ys ob lb la/pw la) oa la ca (la:Int) (la:Int) ys tb xs ta (ap la (sm xs oa la ys ob lb la) n) tc nx)
 | 0,k,h=>by
  obtain rfl:k=la:=by omega
  exact add1.stop2 _ _ _ _ _ _ _ _ _ _ _ _ _ _ _ _ _ _ _ _ _ (dfalse (by omega))
 | j +1,k,h=>by
  have e1:i64.wrap ((k:Int)+1)=((k+1:Nat):Int):=by rw [w64 (by omega) (by omega)]; omega
  have ea:oa+((k:Int)).toNat*1=oa+k:=by simp
  have eb:ob+((k:Int)).toNat*1=ob+k:=by simp
  have e0:0+((k:Int)).toNat*1=k:=by simp
  have hkn:k<n:=by omega
  have c1:(decide (0≤(k:Int))&&decide ((k:Int)<(la:Int)))=true:=dtrue2 (by omega) (by omega)
  have c2:(oa+((k:Int)).toNat*1).blt xs.length=true:=by rw [ea]; exact Fi (by omega)
  have c5:(decide (0≤(k:Int))&&decide ((k:Int)<(n:Int)))=true:=dtrue2 (by omega) (by omega)
  have c6:(0+((k:Int)).toNat*1).blt (ap k (sm xs oa la ys ob lb k) n).length=true:=by rw [e0,Ha _ (by omega)]; exact Fi (by omega)
  have hX:=Fj hx (oa+k)
  have hY:=Fj hy (ob+k)
  have hC:=Mb hx hy h1 h2 k
  have hs:=Qg (k:=k) h1 h2
  rw [if_pos (show k<la by omega)] at hs
  have ih:=add1.go (N:=N) op lp cp oa la ca ob lb cb n m xs ta ys tb tc nx h1 h2 h3 h4 hn hx hy j (k+1) (by omega)
  by_cases hk:k<lb
  ·rw [if_pos hk] at hs
   refine add1.step0 _ _ _ _ _ _ _ _ _ _ _ _ _ _ _ _ _ _ _ _ _ (dtrue (by omega)) c1 c2 (dtrue (by omega)) (dtrue2 (by omega) (by omega)) (by rw [eb]; exact Fi (by omega)) c5 c6 ?_
   rw [ea,eb,e0,e1,Im hX.1 hX.2 hY.1 hY.2 hC.1 hC.2,Jq (by omega) (by omega),wu32]
   rw [hs,H1,←Iw hkn] at ih
   rw [show xs.getD (oa+k) 0+ys.getD (ob+k) 0+sm xs oa la ys ob lb k/pw k=sm xs oa la ys ob lb k/pw k+(xs.getD (oa+k) 0+ys.getD (ob+k) 0) by omega]
   exact ih
  ·rw [if_neg hk] at hs
   refine add1.step1 _ _ _ _ _ _ _ _ _ _ _ _ _ _ _ _ _ _ _ _ _ (dtrue (by omega)) c1 c2 (dfalse (by omega)) c5 c6 ?_
   rw [ea,e0,e1,Im hX.1 hX.2 (Int.le_refl 0) (by decide) hC.1 hC.2,Jq (by omega) (by omega),wu32]
   rw [hs,H1,←Iw hkn] at ih
   rw [show xs.getD (oa+k) 0+0+sm xs oa la ys ob lb k/pw k=sm xs oa la ys ob lb k/pw k+(xs.getD (oa+k) 0+0) by omega]
   exact ih
theorem add1.lp {N:Nat→Prop} (op lp cp ob lb cb n m:Nat) (cr:Int) (oa la ca:Nat) (z i:Int) (ys:List Int) (tb:TypeId) (xs:List Int) (ta:TypeId) (out:List Int) (tc:TypeId) (nx:Nat) {x:X} {S':St} (h:(add1.lt op lp cp ob lb cb n m cr oa la ca z i ys tb xs ta out tc nx).at=some (x,S')):Lq Tryz.prog N (Ag Tryz.f122 0) (add1.st op lp cp ob lb cb n m cr oa la ca z i ys tb xs ta out tc nx) x S':=by
 obtain ⟨h1,rfl,rfl⟩:=Fw h
 simp only [J9,zB,Nat.ble_eq,zD,Eo] at h1
 obtain ⟨rfl,rfl,rfl,rfl,h5,⟨h6,h7,h8⟩,h9,h10,h11⟩:=h1
 have e:sm xs oa la ys ob lb 0/pw 0=0:=by simp [sm,sg,Gw,nv]
 have:=add1.go (N:=N) op lp cp oa la ca ob lb cb n m xs ta ys tb tc nx h6 h9 h7 h10 h5 h8 h11 la 0 (by omega)
 rw [e,Oh] at this
 exact this
def add1.t:LSpec:=fun S=>match RX.nth S.tmps 0,RX.nth S.tmps 1,RX.nth S.tmps 5,RX.nth S.tmps 6,RX.nth S.tmps 21,RX.nth S.tmps 22,RX.nth S.tmps 23,RX.look S.heap 0,RX.look S.heap 1,RX.look S.heap 210 with
 | .slice (some ⟨1,op,none⟩) lp cp,.slice (some ⟨0,ob,none⟩) lb cb,.slice (some ⟨210,0,none⟩) n m,.int .u32 cr,.slice (some ⟨1,oa,none⟩) la ca,.int .i64 z,.int .i64 i,some (.is .u32 ys tb),some (.is .u32 xs ta),some (.is .u32 out tc)=>bif Nat.beq S.tmps.length 54 then some (add1.lt op lp cp ob lb cb n m cr oa la ca z i ys tb xs ta out tc S.nxt) else none
 |_,_,_,_,_,_,_,_,_,_=>none
theorem add1.lok {N:Nat→Prop} :LOKn Tryz.prog N (Ag Tryz.f122 0) (add1.t):=by
 refine Ge fun S lt x S' ht hat=> ?_
 unfold add1.t at ht
 split at ht
 ·rename_i op lp cp ob lb cb n m cr oa la ca z i ys tb xs ta out tc h0 h1 h5 h6 h21 h22 h23 g0 g1 g210
  cases hb:Nat.beq S.tmps.length 54 with
  |false=>rw [hb] at ht; cases ht
  | true=>
   rw [hb] at ht
   injection ht with ht
   subst ht
   have hb:=zE hb
   exact .enter (fun h=>Gr hb (.cons ⟨h0,bnth h h0⟩ (.cons ⟨h1,bnth h h1⟩ (.cons ⟨h5,bnth h h5⟩ (.cons ⟨h6,bnth h h6⟩ (.cons ⟨h21,bnth h h21⟩ (.cons ⟨h22,bnth h h22⟩ (.cons ⟨h23,bnth h h23⟩ .nil))))))) (.cons ⟨g0,bname h g0,rfl⟩ (.cons ⟨g1,bname h g1,rfl⟩ (.cons ⟨g210,bname h g210,rfl⟩ .nil)))) (add1.lp _ _ _ _ _ _ _ _ _ _ _ _ _ _ _ _ _ _ _ _ _ hat)
 ·cases ht
section
variable {N:Nat→Prop} {xe:X} {Se:St} (ob lb cb n m:Nat) (cr:Int) (oa la ca:Nat) (z i:Int) (xs:List Int) (ta:TypeId) (ys:List Int) (tb:TypeId) (out:List Int) (tc:TypeId) (nx:Nat)
abbrev less.st:St:=⟨gbuild [(1,.slice (some ⟨1,ob,none⟩) lb cb),(5,.slice (some ⟨50,0,none⟩) n m),(6,.int .u32 cr),(13,.slice (some ⟨0,oa,none⟩) la ca),(14,.int .i64 z),(15,.int .i64 i)] 0 41,[(0,.is .u32 xs ta),(1,.is .u32 ys tb),(50,.is .u32 out tc)],nx⟩
abbrev less.lk:=RX.lk [1,5,6,13,14,15] [0,1,50]
theorem less.rnd:rd Tryz.prog ⟨[],[(137,Tryz.f137)],[]⟩ [] 5 (Ag Tryz.f124 0) (less.st ob lb cb n m cr oa la ca z i xs ta ys tb out tc nx) 41 [1,5,6,13,14,15] [0,1,50]=
 bif decide (i<z) then bif decide (0≤i)&&decide (i<((la:Nat):Int)) then bif (oa+i.toNat*1).blt xs.length then bif decide (i<((lb:Nat):Int)) then bif decide (0≤i)&&decide (i<((lb:Nat):Int)) then bif (ob+i.toNat*1).blt ys.length then bif decide (0≤i)&&decide (i<((n:Nat):Int)) then bif (0+i.toNat*1).blt out.length then less.lk .normal (less.st ob lb cb n m ((Ew BinOp.or u32 (Ew BinOp.and u32 (Ew BinOp.xor u32 (if u32.signed=true then -1 else u32.max) (xs.getD (oa+i.toNat*1) 0)) (ys.getD (ob+i.toNat*1) 0)) (Ew BinOp.and u32 (Ew BinOp.xor u32 (if u32.signed=true then -1 else u32.max) (Ew BinOp.xor u32 (xs.getD (oa+i.toNat*1) 0) (ys.getD (ob+i.toNat*1) 0))) (u32.wrap (u32.wrap (xs.getD (oa+i.toNat*1) 0-ys.getD (ob+i.toNat*1) 0)-cr)))).fdiv (2^min (Int.toNat 31) u32.bits)) oa la ca z (i64.wrap (i+1)) xs ta ys tb (out.set (0+i.toNat*1) (u32.wrap (u32.wrap (xs.getD (oa+i.toNat*1) 0-ys.getD (ob+i.toNat*1) 0)-cr))) tc nx) else none else none else none else none else bif decide (0≤i)&&decide (i<((n:Nat):Int)) then bif (0+i.toNat*1).blt out.length then less.lk .normal (less.st ob lb cb n m ((Ew BinOp.or u32 (Ew BinOp.and u32 (Ew BinOp.xor u32 (if u32.signed=true then -1 else u32.max) (xs.getD (oa+i.toNat*1) 0)) 0) (Ew BinOp.and u32 (Ew BinOp.xor u32 (if u32.signed=true then -1 else u32.max) (Ew BinOp.xor u32 (xs.getD (oa+i.toNat*1) 0) 0)) (u32.wrap (u32.wrap (xs.getD (oa+i.toNat*1) 0-0)-cr)))).fdiv (2^min (Int.toNat 31) u32.bits)) oa la ca z (i64.wrap (i+1)) xs ta ys tb (out.set (0+i.toNat*1) (u32.wrap (u32.wrap (xs.getD (oa+i.toNat*1) 0-0)-cr))) tc nx) else none else none else none else none else less.lk (.exit 0) (less.st ob lb cb n m cr oa la ca z i xs ta ys tb out tc nx):=by kernel_rfl
def less.step0:=fun h0 h1 h2 h3 h4 h5 h6 h7 (ih:Lq Tryz.prog N (Ag Tryz.f124 0) _ xe Se)=>Lq.toK (f:=5) ⟨Ac,Fl ⟨Tryz.func137,by decide,rfl⟩ Ai,Ad,Ah⟩ Be (((((((((less.rnd ob lb cb n m cr oa la ca z i xs ta ys tb out tc nx).ct h0).ct h1).ct h2).ct h3).ct h4).ct h5).ct h6).ct h7) rfl rfl ih
def less.step1:=fun h0 h1 h2 h3 h4 h5 (ih:Lq Tryz.prog N (Ag Tryz.f124 0) _ xe Se)=>Lq.toK (f:=5) ⟨Ac,Fl ⟨Tryz.func137,by decide,rfl⟩ Ai,Ad,Ah⟩ Be (((((((less.rnd ob lb cb n m cr oa la ca z i xs ta ys tb out tc nx).ct h0).ct h1).ct h2).cf h3).ct h4).ct h5) rfl rfl ih
def less.stop2:=fun h0=>Lq.endK (N:=N) (f:=5) ⟨Ac,Fl ⟨Tryz.func137,by decide,rfl⟩ Ai,Ad,Ah⟩ Be ((less.rnd ob lb cb n m cr oa la ca z i xs ta ys tb out tc nx).cf h0) (fun q=>by cases q) rfl rfl
end
def less.lt (ob lb cb n m:Nat) (cr:Int) (oa la ca:Nat) (z i:Int) (xs:List Int) (ta:TypeId) (ys:List Int) (tb:TypeId) (out:List Int) (tc:TypeId) (nx:Nat):LT:= .got (J9 oa la ob lb n cr z i xs ys out) (.exit 0) (less.st ob lb cb n m (-(df xs oa la ys ob lb la/pw la)) oa la ca z z xs ta ys tb (ap la (df xs oa la ys ob lb la) n) tc nx)
theorem MD {x y b:Int} :u32.wrap (u32.wrap (x-y)-b)=(-b+(x-y))%4294967296:=by rw [wu32,wu32]; omega
theorem less.go {N:Nat→Prop} (oa la ca ob lb cb n m:Nat) (xs:List Int) (ta:TypeId) (ys:List Int) (tb tc:TypeId) (nx:Nat) (h1:oa+la≤xs.length) (h2:ob+lb≤ys.length) (h3:la≤4294967296) (h4:lb≤4294967296) (hn:la≤n) (hx:dig xs) (hy:dig ys):∀(j k:Nat),k+j=la→Lq Tryz.prog N (Ag Tryz.f124 0) (less.st ob lb cb n m (-(df xs oa la ys ob lb k/pw k)) oa la ca (la:Int) (k:Int) xs ta ys tb (ap k (df xs oa la ys ob lb k) n) tc nx) (.exit 0) (less.st ob lb cb n m (-(df xs oa la ys ob lb la/pw la)) oa la ca (la:Int) (la:Int) xs ta ys tb (ap la (df xs oa la ys ob lb la) n) tc nx)
 | 0,k,h=>by
  obtain rfl:k=la:=by omega
  exact less.stop2 _ _ _ _ _ _ _ _ _ _ _ _ _ _ _ _ _ _ (dfalse (by omega))
 | j +1,k,h=>by
  have e1:i64.wrap ((k:Int)+1)=((k+1:Nat):Int):=by rw [w64 (by omega) (by omega)]; omega
  have ea:oa+((k:Int)).toNat*1=oa+k:=by simp
  have eb:ob+((k:Int)).toNat*1=ob+k:=by simp
  have e0:0+((k:Int)).toNat*1=k:=by simp
  have hkn:k<n:=by omega
  have c1:(decide (0≤(k:Int))&&decide ((k:Int)<(la:Int)))=true:=dtrue2 (by omega) (by omega)
  have c2:(oa+((k:Int)).toNat*1).blt xs.length=true:=by rw [ea]; exact Fi (by omega)
  have c5:(decide (0≤(k:Int))&&decide ((k:Int)<(n:Int)))=true:=dtrue2 (by omega) (by omega)
  have c6:(0+((k:Int)).toNat*1).blt (ap k (df xs oa la ys ob lb k) n).length=true:=by rw [e0,Ha _ (by omega)]; exact Fi (by omega)
  have hX:=Fj hx (oa+k)
  have hY:=Fj hy (ob+k)
  have hC:=Ry hx hy h1 h2 k
  have hs:=df_succ (k:=k) h1 h2
  rw [if_pos (show k<la by omega)] at hs
  have ih:=less.go (N:=N) oa la ca ob lb cb n m xs ta ys tb tc nx h1 h2 h3 h4 hn hx hy j (k+1) (by omega)
  by_cases hk:k<lb
  ·rw [if_pos hk] at hs
   refine less.step0 _ _ _ _ _ _ _ _ _ _ _ _ _ _ _ _ _ _ (dtrue (by omega)) c1 c2 (dtrue (by omega)) (dtrue2 (by omega) (by omega)) (by rw [eb]; exact Fi (by omega)) c5 c6 ?_
   rw [ea,eb,e0,e1,borrow hX.1 hX.2 hY.1 hY.2 (by omega) (by omega),MD,Int.neg_neg]
   rw [hs,H1,←Iw hkn] at ih
   rw [show xs.getD (oa+k) 0-ys.getD (ob+k) 0- -(df xs oa la ys ob lb k/pw k)=df xs oa la ys ob lb k/pw k+(xs.getD (oa+k) 0-ys.getD (ob+k) 0) by omega]
   exact ih
  ·rw [if_neg hk] at hs
   refine less.step1 _ _ _ _ _ _ _ _ _ _ _ _ _ _ _ _ _ _ (dtrue (by omega)) c1 c2 (dfalse (by omega)) c5 c6 ?_
   rw [ea,e0,e1,borrow hX.1 hX.2 (Int.le_refl 0) (by decide) (by omega) (by omega),MD,Int.neg_neg]
   rw [hs,H1,←Iw hkn] at ih
   rw [show xs.getD (oa+k) 0-0- -(df xs oa la ys ob lb k/pw k)=df xs oa la ys ob lb k/pw k+(xs.getD (oa+k) 0-0) by omega]
   exact ih
theorem less.lp {N:Nat→Prop} (ob lb cb n m:Nat) (cr:Int) (oa la ca:Nat) (z i:Int) (xs:List Int) (ta:TypeId) (ys:List Int) (tb:TypeId) (out:List Int) (tc:TypeId) (nx:Nat) {x:X} {S':St} (h:(less.lt ob lb cb n m cr oa la ca z i xs ta ys tb out tc nx).at=some (x,S')):Lq Tryz.prog N (Ag Tryz.f124 0) (less.st ob lb cb n m cr oa la ca z i xs ta ys tb out tc nx) x S':=by
 obtain ⟨h1,rfl,rfl⟩:=Fw h
 simp only [J9,zB,Nat.ble_eq,zD,Eo] at h1
 obtain ⟨rfl,rfl,rfl,rfl,h5,⟨h6,h7,h8⟩,h9,h10,h11⟩:=h1
 have e: -(df xs oa la ys ob lb 0/pw 0)=0:=by simp [df,sg,Gw,nv]
 have:=less.go (N:=N) oa la ca ob lb cb n m xs ta ys tb tc nx h6 h9 h7 h10 h5 h8 h11 la 0 (by omega)
 rw [e,Oh] at this
 exact this
def less.t:LSpec:=fun S=>match RX.nth S.tmps 1,RX.nth S.tmps 5,RX.nth S.tmps 6,RX.nth S.tmps 13,RX.nth S.tmps 14,RX.nth S.tmps 15,RX.look S.heap 0,RX.look S.heap 1,RX.look S.heap 50 with
 | .slice (some ⟨1,ob,none⟩) lb cb,.slice (some ⟨50,0,none⟩) n m,.int .u32 cr,.slice (some ⟨0,oa,none⟩) la ca,.int .i64 z,.int .i64 i,some (.is .u32 xs ta),some (.is .u32 ys tb),some (.is .u32 out tc)=>bif Nat.beq S.tmps.length 41 then some (less.lt ob lb cb n m cr oa la ca z i xs ta ys tb out tc S.nxt) else none
 |_,_,_,_,_,_,_,_,_=>none
theorem less.lok {N:Nat→Prop} :LOKn Tryz.prog N (Ag Tryz.f124 0) (less.t):=by
 refine Ge fun S lt x S' ht hat=> ?_
 unfold less.t at ht
 split at ht
 ·rename_i ob lb cb n m cr oa la ca z i xs ta ys tb out tc h1 h5 h6 h13 h14 h15 g0 g1 g50
  cases hb:Nat.beq S.tmps.length 41 with
  |false=>rw [hb] at ht; cases ht
  | true=>
   rw [hb] at ht
   injection ht with ht
   subst ht
   have hb:=zE hb
   exact .enter (fun h=>Gr hb (.cons ⟨h1,bnth h h1⟩ (.cons ⟨h5,bnth h h5⟩ (.cons ⟨h6,bnth h h6⟩ (.cons ⟨h13,bnth h h13⟩ (.cons ⟨h14,bnth h h14⟩ (.cons ⟨h15,bnth h h15⟩ .nil)))))) (.cons ⟨g0,bname h g0,rfl⟩ (.cons ⟨g1,bname h g1,rfl⟩ (.cons ⟨g50,bname h g50,rfl⟩ .nil)))) (less.lp _ _ _ _ _ _ _ _ _ _ _ _ _ _ _ _ _ _ hat)
 ·cases ht
def addL:LSpec:=fun S=>match add0.t S with|some lt=>some lt|none=>add1.t S
theorem badd0.run (oa la ca ob lb cb:Nat) (xs ys:List Int):xfnN Tryz.prog ⟨[(134,Et.sp)],[(136,Tryz.f136)],[]⟩ [(0,addL)] 10 Tryz.f122 [.slice (some ⟨0,oa,none⟩) la ca,.slice (some ⟨1,ob,none⟩) lb cb] [.is .u32 xs 144,.is .u32 ys 144] [146]=
 bif decide (((la:Nat):Int)<((lb:Nat):Int)) then bif decide (0≤i64.wrap (((lb:Nat):Int)+1))&&(decide (i64.wrap (((lb:Nat):Int)+1)≤i64.wrap (((lb:Nat):Int)+1))&&(decide (i64.wrap (((lb:Nat):Int)+1)≤140737488355328)&&decide (((3+1:Nat):Int)*i64.wrap (((lb:Nat):Int)+1)≤140737488355328))) then bif J9 ob lb oa la (i64.wrap (((lb:Nat):Int)+1)).toNat 0 (((lb:Nat):Int)) 0 ys xs (List.replicate ((i64.wrap (((lb:Nat):Int)+1)).toNat*1) 0) then bif decide (0≤((lb:Nat):Int))&&decide (((lb:Nat):Int)<(((i64.wrap (((lb:Nat):Int)+1)).toNat:Nat):Int)) then bif (0+(((lb:Nat):Int)).toNat*1).blt (ap lb (sm ys ob lb xs oa la lb) (i64.wrap (((lb:Nat):Int)+1)).toNat).length then bif trim.ok 0 (i64.wrap (((lb:Nat):Int)+1)).toNat (i64.wrap (((lb:Nat):Int)+1)).toNat ((ap lb (sm ys ob lb xs oa la lb) (i64.wrap (((lb:Nat):Int)+1)).toNat).set (0+(((lb:Nat):Int)).toNat*1) (sm ys ob lb xs oa la lb/pw lb)) then none else none else none else none else none else none else bif decide (0≤i64.wrap (((la:Nat):Int)+1))&&(decide (i64.wrap (((la:Nat):Int)+1)≤i64.wrap (((la:Nat):Int)+1))&&(decide (i64.wrap (((la:Nat):Int)+1)≤140737488355328)&&decide (((3+1:Nat):Int)*i64.wrap (((la:Nat):Int)+1)≤140737488355328))) then bif J9 oa la ob lb (i64.wrap (((la:Nat):Int)+1)).toNat 0 (((la:Nat):Int)) 0 xs ys (List.replicate ((i64.wrap (((la:Nat):Int)+1)).toNat*1) 0) then bif decide (0≤((la:Nat):Int))&&decide (((la:Nat):Int)<(((i64.wrap (((la:Nat):Int)+1)).toNat:Nat):Int)) then bif (0+(((la:Nat):Int)).toNat*1).blt (ap la (sm xs oa la ys ob lb la) (i64.wrap (((la:Nat):Int)+1)).toNat).length then bif trim.ok 0 (i64.wrap (((la:Nat):Int)+1)).toNat (i64.wrap (((la:Nat):Int)+1)).toNat ((ap la (sm xs oa la ys ob lb la) (i64.wrap (((la:Nat):Int)+1)).toNat).set (0+(((la:Nat):Int)).toNat*1) (sm xs oa la ys ob lb la/pw la)) then some ((Value.slice (some {block:=146,off:=0}) (tl (seg ((ap la (sm xs oa la ys ob lb la) (i64.wrap (((la:Nat):Int)+1)).toNat).set (0+(((la:Nat):Int)).toNat*1) (sm xs oa la ys ob lb la/pw la)) 0 (i64.wrap (((la:Nat):Int)+1)).toNat)) (i64.wrap (((la:Nat):Int)+1)).toNat,[Blk.is u32 xs 144,Blk.is u32 ys 144,Blk.is u32 ((ap la (sm xs oa la ys ob lb la) (i64.wrap (((la:Nat):Int)+1)).toNat).set (0+(((la:Nat):Int)).toNat*1) (sm xs oa la ys ob lb la/pw la)) 144])) else none else none else none else none else none:=by kernel_rfl
def badd0.run0:=fun oa la ca ob lb cb xs ys h0 h1 h2 h3 h4 h5=>(((((((badd0.run oa la ca ob lb cb xs ys).cf h0).ct h1).ct h2).ct h3).ct h4).ct h5)
theorem badd1.run (oa la ca ob lb cb:Nat) (xs ys:List Int):xfnN Tryz.prog ⟨[(134,Et.sp)],[(136,Tryz.f136)],[]⟩ [(0,addL)] 10 Tryz.f122 [.slice (some ⟨0,oa,none⟩) la ca,.slice (some ⟨1,ob,none⟩) lb cb] [.is .u32 xs 144,.is .u32 ys 144] [210]=
 bif decide (((la:Nat):Int)<((lb:Nat):Int)) then bif decide (0≤i64.wrap (((lb:Nat):Int)+1))&&(decide (i64.wrap (((lb:Nat):Int)+1)≤i64.wrap (((lb:Nat):Int)+1))&&(decide (i64.wrap (((lb:Nat):Int)+1)≤140737488355328)&&decide (((3+1:Nat):Int)*i64.wrap (((lb:Nat):Int)+1)≤140737488355328))) then bif J9 ob lb oa la (i64.wrap (((lb:Nat):Int)+1)).toNat 0 (((lb:Nat):Int)) 0 ys xs (List.replicate ((i64.wrap (((lb:Nat):Int)+1)).toNat*1) 0) then bif decide (0≤((lb:Nat):Int))&&decide (((lb:Nat):Int)<(((i64.wrap (((lb:Nat):Int)+1)).toNat:Nat):Int)) then bif (0+(((lb:Nat):Int)).toNat*1).blt (ap lb (sm ys ob lb xs oa la lb) (i64.wrap (((lb:Nat):Int)+1)).toNat).length then bif trim.ok 0 (i64.wrap (((lb:Nat):Int)+1)).toNat (i64.wrap (((lb:Nat):Int)+1)).toNat ((ap lb (sm ys ob lb xs oa la lb) (i64.wrap (((lb:Nat):Int)+1)).toNat).set (0+(((lb:Nat):Int)).toNat*1) (sm ys ob lb xs oa la lb/pw lb)) then some ((Value.slice (some {block:=210,off:=0}) (tl (seg ((ap lb (sm ys ob lb xs oa la lb) (i64.wrap (((lb:Nat):Int)+1)).toNat).set (0+(((lb:Nat):Int)).toNat*1) (sm ys ob lb xs oa la lb/pw lb)) 0 (i64.wrap (((lb:Nat):Int)+1)).toNat)) (i64.wrap (((lb:Nat):Int)+1)).toNat,[Blk.is u32 xs 144,Blk.is u32 ys 144,Blk.is u32 ((ap lb (sm ys ob lb xs oa la lb) (i64.wrap (((lb:Nat):Int)+1)).toNat).set (0+(((lb:Nat):Int)).toNat*1) (sm ys ob lb xs oa la lb/pw lb)) 144])) else none else none else none else none else none else bif decide (0≤i64.wrap (((la:Nat):Int)+1))&&(decide (i64.wrap (((la:Nat):Int)+1)≤i64.wrap (((la:Nat):Int)+1))&&(decide (i64.wrap (((la:Nat):Int)+1)≤140737488355328)&&decide (((3+1:Nat):Int)*i64.wrap (((la:Nat):Int)+1)≤140737488355328))) then bif J9 oa la ob lb (i64.wrap (((la:Nat):Int)+1)).toNat 0 (((la:Nat):Int)) 0 xs ys (List.replicate ((i64.wrap (((la:Nat):Int)+1)).toNat*1) 0) then bif decide (0≤((la:Nat):Int))&&decide (((la:Nat):Int)<(((i64.wrap (((la:Nat):Int)+1)).toNat:Nat):Int)) then bif (0+(((la:Nat):Int)).toNat*1).blt (ap la (sm xs oa la ys ob lb la) (i64.wrap (((la:Nat):Int)+1)).toNat).length then bif trim.ok 0 (i64.wrap (((la:Nat):Int)+1)).toNat (i64.wrap (((la:Nat):Int)+1)).toNat ((ap la (sm xs oa la ys ob lb la) (i64.wrap (((la:Nat):Int)+1)).toNat).set (0+(((la:Nat):Int)).toNat*1) (sm xs oa la ys ob lb la/pw la)) then none else none else none else none else none else none:=by kernel_rfl
def badd1.run0:=fun oa la ca ob lb cb xs ys h0 h1 h2 h3 h4 h5=>(((((((badd1.run oa la ca ob lb cb xs ys).ct h0).ct h1).ct h2).ct h3).ct h4).ct h5)
theorem bless.run (oa la ca ob lb cb:Nat) (xs ys:List Int):xfnN Tryz.prog ⟨[(134,Et.sp)],[(137,Tryz.f137)],[]⟩ [(0,less.t)] 10 Tryz.f124 [.slice (some ⟨0,oa,none⟩) la ca,.slice (some ⟨1,ob,none⟩) lb cb] [.is .u32 xs 144,.is .u32 ys 144] [50]=
 bif decide (0≤((la:Nat):Int))&&(decide (((la:Nat):Int)≤((la:Nat):Int))&&(decide (((la:Nat):Int)≤140737488355328)&&decide (((3+1:Nat):Int)*((la:Nat):Int)≤140737488355328))) then bif J9 oa la ob lb (((la:Nat):Int)).toNat 0 (((la:Nat):Int)) 0 xs ys (List.replicate ((((la:Nat):Int)).toNat*1) 0) then bif trim.ok 0 (((la:Nat):Int)).toNat (((la:Nat):Int)).toNat (ap la (df xs oa la ys ob lb la) (((la:Nat):Int)).toNat) then some ((Value.slice (some {block:=50,off:=0}) (tl (seg (ap la (df xs oa la ys ob lb la) (((la:Nat):Int)).toNat) 0 (((la:Nat):Int)).toNat)) (((la:Nat):Int)).toNat,[Blk.is u32 xs 144,Blk.is u32 ys 144,Blk.is u32 (ap la (df xs oa la ys ob lb la) (((la:Nat):Int)).toNat) 144])) else none else none else none:=by kernel_rfl
def bless.run0:=fun oa la ca ob lb cb xs ys h0 h1 h2=>((((bless.run oa la ca ob lb cb xs ys).ct h0).ct h1).ct h2)
def add.sp:HSpec
 |[.slice (some ⟨0,oa,none⟩) la ca,.slice (some ⟨1,ob,none⟩) lb cb],[.is .u32 xs 144,.is .u32 ys 144]=>some (Du oa la xs&&Du ob lb ys,.slice (some ⟨2,0,none⟩) (tl (dg (max la lb+1) (nv (seg xs oa la)+nv (seg ys ob lb)))) (max la lb+1),[.is .u32 xs 144,.is .u32 ys 144,.is .u32 (dg (max la lb+1) (nv (seg xs oa la)+nv (seg ys ob lb))) 144])
 |_,_=>none
def less.sp:HSpec
 |[.slice (some ⟨0,oa,none⟩) la ca,.slice (some ⟨1,ob,none⟩) lb cb],[.is .u32 xs 144,.is .u32 ys 144]=>some (Du oa la xs&&(Du ob lb ys&&decide (nv (seg ys ob lb)≤nv (seg xs oa la))),.slice (some ⟨2,0,none⟩) (tl (dg la (nv (seg xs oa la)-nv (seg ys ob lb)))) la,[.is .u32 xs 144,.is .u32 ys 144,.is .u32 (dg la (nv (seg xs oa la)-nv (seg ys ob lb))) 144])
 |_,_=>none
theorem ap_last {k:Nat} {v:Int} (h:0≤v/pw k) (h':v/pw k<4294967296):(ap k v (k+1)).set k (v/pw k)=dg (k+1) v:=by
 have:=Iw (k:=k) (n:=k+1) (by omega) v 0
 rw [Int.add_zero,Int.mul_zero,Int.add_zero,Oi,Int.emod_eq_of_lt h h'] at this
 exact this
theorem RR {xs ys:List Int} (hx:dig xs) (hy:dig ys) {oa la ob lb:Nat} (h:oa+la≤xs.length) (h':ob+lb≤ys.length) (hl:lb≤la):(ap la (sm xs oa la ys ob lb la) (la+1)).set la (sm xs oa la ys ob lb la/pw la)=dg (la+1) (nv (seg xs oa la)+nv (seg ys ob lb)):=by
 have:=Mb hx hy h h' la
 rw [ap_last this.1 (by omega)]
 unfold sm
 rw [MF _ _ _ _ (Nat.le_refl _),MF _ _ _ _ hl]
theorem NQ {oa la ob lb:Nat} {xs ys:List Int} {n:Nat} (hn:la≤n) (h:Du oa la xs=true) (h':Du ob lb ys=true):J9 oa la ob lb n 0 (la:Int) 0 xs ys (List.replicate n 0)=true:=by
 simp only [J9,h,h',decide_true,Bool.and_true,Bool.true_and,Nat.ble_eq]; exact hn
theorem My {l:Nat} (h:l≤4294967297):(decide (0≤(l:Int))&&(decide ((l:Int)≤(l:Int))&&(decide ((l:Int)≤140737488355328)&&decide (((3+1:Nat):Int)*(l:Int)≤140737488355328))))=true:=by
 simp only [zB,zD]; omega
theorem I3 {l:Nat} {xs:List Int} (h:xs.length=l) (hl:l≤4294967297):trim.ok 0 l l xs=true:=by
 simp only [trim.ok,zB,Nat.ble_eq]; omega
theorem add.ok:SOK Tryz.prog 122 add.sp:=by
 refine Hg (E:=⟨[(134,Et.sp)],[(136,Tryz.f136)],[]⟩) (L:=[(0,addL)]) ⟨Aa Et.ok Ac,Fl ⟨Tryz.func136,by decide,rfl⟩ Ai,Ad,Ah⟩ 10 Tryz.func122 (by decide) rfl (Ga rfl rfl (Lk add0.lok add1.lok)) fun vs bl v bl' h=> ?_
 unfold add.sp at h
 split at h
 ·rename_i oa la ca ob lb cb xs ys
  simp only [zS,zP,zB] at h
  obtain ⟨⟨hA,hB⟩,rfl,rfl⟩:=h
  obtain ⟨h1,h2,h3⟩:=Eo.1 hA
  obtain ⟨h4,h5,h6⟩:=Eo.1 hB
  by_cases hl:la<lb
  ·have e1:i64.wrap (((lb:Nat):Int)+1)=((lb+1:Nat):Int):=by rw [w64 (by omega) (by omega)]; omega
   have hmx:max la lb=lb:=by omega
   have hr:=badd1.run0 oa la ca ob lb cb xs ys (dtrue (by omega)) (by rw [e1]; exact My (by omega)) (by rw [e1,Int.toNat_natCast,Nat.mul_one]; exact NQ (by omega) hB hA) (by rw [e1,Int.toNat_natCast]; exact dtrue2 (by omega) (by omega)) (by rw [e1,Int.toNat_natCast,Ha _ (by omega),Int.toNat_natCast]; exact Fi (by omega)) (by rw [e1,Int.toNat_natCast]; exact I3 (by rw [List.length_set,Ha _ (by omega)]) (by omega))
   have hf:=RR h6 h3 h4 h1 (show la≤lb by omega)
   refine ⟨[210],hr.trans ?_,by simp [okV,Nat.blt],rfl,Ay rfl,List.nodup_cons.2 ⟨by simp,List.nodup_nil⟩,by simp⟩
   have e2:0+(((lb:Nat):Int)).toNat*1=lb:=by simp
   rw [e1,e2,Int.toNat_natCast,hf,hmx,Je,Int.add_comm]
   rfl
  ·have e1:i64.wrap (((la:Nat):Int)+1)=((la+1:Nat):Int):=by rw [w64 (by omega) (by omega)]; omega
   have hmx:max la lb=la:=by omega
   have hr:=badd0.run0 oa la ca ob lb cb xs ys (dfalse (by omega)) (by rw [e1]; exact My (by omega)) (by rw [e1,Int.toNat_natCast,Nat.mul_one]; exact NQ (by omega) hA hB) (by rw [e1,Int.toNat_natCast]; exact dtrue2 (by omega) (by omega)) (by rw [e1,Int.toNat_natCast,Ha _ (by omega),Int.toNat_natCast]; exact Fi (by omega)) (by rw [e1,Int.toNat_natCast]; exact I3 (by rw [List.length_set,Ha _ (by omega)]) (by omega))
   have hf:=RR h3 h6 h1 h4 (show lb≤la by omega)
   refine ⟨[146],hr.trans ?_,by simp [okV,Nat.blt],rfl,Ay rfl,List.nodup_cons.2 ⟨by simp,List.nodup_nil⟩,by simp⟩
   have e2:0+(((la:Nat):Int)).toNat*1=la:=by simp
   rw [e1,e2,Int.toNat_natCast,hf,hmx,Je]
   rfl
 ·cases h
theorem Pg.ok:SOK Tryz.prog 124 less.sp:=by
  refine Hg (E:=⟨[(134,Et.sp)],[(137,Tryz.f137)],[]⟩) (L:=[(0,less.t)]) ⟨Aa Et.ok Ac,Fl ⟨Tryz.func137,by decide,rfl⟩ Ai,Ad,Ah⟩ 10 Tryz.func124 (by decide) rfl (Ga rfl rfl less.lok) fun vs bl v bl' h=> ?_
  unfold less.sp at h
  split at h
  · rename_i oa la ca ob lb cb xs ys
    simp only [zS,zP,zB,zD] at h
    obtain ⟨⟨hA,hB,hle⟩,rfl,rfl⟩:=h
    obtain ⟨h1,h2,h3⟩:=Eo.1 hA
    obtain ⟨h4,h5,h6⟩:=Eo.1 hB
    have hr:=bless.run0 oa la ca ob lb cb xs ys (My (by omega)) (by rw [Int.toNat_natCast,Nat.mul_one]; exact NQ (Nat.le_refl _) hA hB) (by rw [Int.toNat_natCast]; exact I3 (Ha _ (Nat.le_refl _)) (by omega))
    refine ⟨[50],hr.trans ?_,by simp [okV,Nat.blt],rfl,Ay rfl,List.nodup_cons.2 ⟨by simp,List.nodup_nil⟩,by simp⟩
    have hdf:dg la (df xs oa la ys ob lb la)=dg la (nv (seg xs oa la)-nv (seg ys ob lb)):=by
      unfold df
      rw [MF _ _ _ _ (Nat.le_refl _)]
      by_cases hl:lb≤la
      · rw [MF _ _ _ _ hl]
      ·
        have hs:sg ys ob lb la=nv (seg ys ob la):=by unfold sg; rw [Nat.min_eq_left (by omega)]
        obtain ⟨d,rfl⟩:=Nat.exists_eq_add_of_le (show la≤lb by omega)
        have hsp:seg ys ob (la+d)=seg ys ob la++seg ys (ob+la) d:=by
          unfold seg
          rw [List.take_add,List.drop_drop]
        rw [hs,hsp,Ld,Fh (by omega),show nv (seg xs oa la)-(nv (seg ys ob la)+pw la*nv (seg ys (ob+la) d))=nv (seg xs oa la)-nv (seg ys ob la)+pw la* -nv (seg ys (ob+la) d) by rw [Int.mul_neg]; omega,Kd]
    rw [Int.toNat_natCast,Oi,hdf,Je]
    rfl
  · cases h
theorem LW.run (na:Bool) (sa:ByteArray):xfn Tryz.prog ⟨[],[],[]⟩ [] 10 Tryz.f96 [.agg ⟨[.bool na,.string sa]⟩] []=
 bif sa.toList==(⟨#[]⟩:ByteArray).toList then some ((Value.bool !na,[])) else bif decide (0≤0)&&decide (0<((sa.size:Nat):Int)) then some ((Value.bool ((((sa.data.toList.getD (Int.toNat 0) 0).toNat:Nat):Int) !=0),[])) else none:=by kernel_rfl
def LW.run0:=fun na sa h0=>((LW.run na sa).ct h0)
def LW.run1:=fun na sa h0 h1=>(((LW.run na sa).cf h0).ct h1)
theorem rword.run (n:Int):xfnN Tryz.prog ⟨[(134,Et.sp)],[],[]⟩ [] 10 Tryz.f119 [.int .u64 n] [] [96]=
 some ((Value.slice (some {block:=96,off:=0}) (tl (seg [u32.wrap n,u32.wrap (n.fdiv (2^min (Int.toNat 32) u64.bits))] 0 2)) 2,[Blk.is u32 [u32.wrap n,u32.wrap (n.fdiv (2^min (Int.toNat 32) u64.bits))] 144])):=by kernel_rfl
def rword.run0:=fun n=>(rword.run n)
def vldL (n:Bool):List UInt8→Bool
 |[]=> !n
 |b::_=> !(b.toNat==0)
def vld (n:Bool) (s:ByteArray):Bool:=vldL n s.data.toList
def vl (n:Bool) (s:ByteArray):Int:=bif n then -bv s.data.toList else bv s.data.toList
def iI (z:Int):Value:= .agg ⟨[.bool (decide (z<0)),.string (str (enc (z.natAbs:Int)))]⟩
theorem Jo {b:UInt8} {r:List UInt8} (h:(b.toNat==0)=false):p8 r.length≤bv (b::r):=by
 have hb:b.toNat≠0:=by simpa using h
 have hp:=Hk r.length
 rw [Oe]
 have h1:=Fd r
 have h2:1*p8 r.length≤(b.toNat:Int)*p8 r.length:=Int.mul_le_mul_of_nonneg_right (by omega) (by omega)
 omega
theorem JY {n:Bool} {s:ByteArray} (h:vld n s=true):tz s.data.toList=s.data.toList:=by
 unfold vld at h
 cases hs:s.data.toList with
 |nil=>rfl
 | cons b r=>
  rw [hs] at h
  simp only [vldL,Bool.not_eq_true'] at h
  simp only [tz,h,cond_false]
theorem JX (z:Int):vld (decide (z<0)) (str (enc (z.natAbs:Int)))=true:=by
 show vldL (decide (z<0)) (enc (z.natAbs:Int))=true
 cases he:enc (z.natAbs:Int) with
 | nil=>
  have:=(RI (by omega)).1 he
  simp only [vldL,Bool.not_eq_true']
  exact dfalse (by omega)
 | cons b r=>
  simp only [vldL]
  have:=tz_enc (z.natAbs:Int)
  rw [he] at this
  simp only [tz] at this
  cases hb:b.toNat==0 with
  |false=>rfl
  | true=>
   rw [hb,cond_true] at this
   have h2:=LP r
   rw [this] at h2
   simp only [List.length_cons] at h2
   omega
theorem Lz (z:Int):vl (decide (z<0)) (str (enc (z.natAbs:Int)))=z:=by
 show (bif decide (z<0) then -bv (enc (z.natAbs:Int)) else bv (enc (z.natAbs:Int)))=z
 rw [QK (by omega)]
 by_cases h:z<0
 ·rw [dtrue h,cond_true]; omega
 ·rw [dfalse h,cond_false]; omega
theorem iI_vl {n:Bool} {s:ByteArray} (h:vld n s=true):iI (vl n s)= .agg ⟨[.bool n,.string s]⟩:=by
 have ht:=JY h
 have hb:=Fd s.data.toList
 have e1:((vl n s).natAbs:Int)=bv s.data.toList:=by unfold vl; cases n<;>simp only [cond_true,cond_false]<;>omega
 have e2:decide (vl n s<0)=n:=by
  unfold vl
  cases n with
  |false=>exact dfalse (by simp only [cond_false]; omega)
  | true=>
   refine dtrue ?_
   simp only [cond_true]
   unfold vld at h
   cases hs:s.data.toList with
   |nil=>rw [hs] at h; simp [vldL] at h
   | cons b r=>
    rw [hs] at h
    simp only [vldL,Bool.not_eq_true'] at h
    have:=Jo (r:=r) h
    have:=Hk r.length
    omega
 unfold iI
 rw [e1,e2,JL ht]
 rfl
def Valid.sp:HSpec
 |[.agg ⟨[.bool n,.string s]⟩],[]=>some (true,.bool (vld n s),[])
 |_,_=>none
theorem Valid.ok : SOK Tryz.prog 96 Valid.sp:=by
  refine Cu (E:=⟨[],[],[]⟩) (L:=[]) ⟨Ac,Ai,Ad,Ah⟩ 10 Tryz.func96 (by decide) rfl Bv fun vs bl v bl' h=> ?_
  unfold Valid.sp at h
  split at h
  · rename_i n s
    simp only [zS,zP,true_and] at h
    obtain ⟨rfl,rfl⟩:=h
    refine ⟨?_,by simp [okV],clo_spec 8 _ rfl,Ay rfl⟩
    obtain ⟨⟨l⟩⟩:=s
    have hs:((⟨⟨l⟩⟩:ByteArray).toList==(⟨#[]⟩:ByteArray).toList)=l.isEmpty:=HY l
    cases l with
    |nil=>exact LW.run0 n _ hs
    | cons b r=>
      refine (LW.run1 n _ hs (dtrue2 (by omega) (by show (0:Int)<(((b::r).length:Nat):Int); rw [List.length_cons]; omega))).trans ?_
      have:((((((b::r:List UInt8).getD (Int.toNat 0) 0).toNat:Nat):Int) !=0))= !(b.toNat==0):=by
        show ((((b.toNat:Nat):Int)) !=0)=_
        cases hb:b.toNat==0 with
        | true => have:b.toNat=0:=by simpa using hb
                  rw [this]; rfl
        | false => have:b.toNat≠0:=by simpa using hb
                   simp only [Bool.not_false]; exact Em (by omega)
      show some (Value.bool _,_)=some (Value.bool _,_)
      rw [this]
      rfl
  · cases h
def word.sp:HSpec
 |[.int .u64 n],[]=>some (decide (0≤n)&&decide (n<18446744073709551616),.slice (some ⟨0,0,none⟩) (tl (dg 2 n)) 2,[.is .u32 (dg 2 n) 144])
 |_,_=>none
theorem word.ok:SOK Tryz.prog 119 word.sp:=by
 refine Hg (E:=⟨[(134,Et.sp)],[],[]⟩) (L:=[]) ⟨Aa Et.ok Ac,Ai,Ad,Ah⟩ 10 Tryz.func119 (by decide) rfl Bv fun vs bl v bl' h=> ?_
 unfold word.sp at h
 split at h
 ·rename_i n
  simp only [zS,zP,zB,zD] at h
  obtain ⟨⟨h0,h1⟩,rfl,rfl⟩:=h
  refine ⟨[96],(rword.run0 n).trans ?_,by simp [okV,Nat.blt],rfl,Ay rfl,List.nodup_cons.2 ⟨by simp,List.nodup_nil⟩,by simp⟩
  have e:[u32.wrap n,u32.wrap (n.fdiv (2^min (Int.toNat 32) u64.bits))]=dg 2 n:=by
   rw [Int.fdiv_eq_ediv_of_nonneg _ (by decide),show ((2:Int)^min (Int.toNat 32) u64.bits)=4294967296 from rfl,wu32,wu32]
   rfl
  rw [e,Je]
  rfl
 ·cases h
theorem rOf.run (n:Int):xfn Tryz.prog ⟨[(119,word.sp),(120,with.sp)],[],[]⟩ [] 10 Tryz.f99 [.int .i64 n] []=
 bif decide (n<0) then bif decide (0≤u64.wrap (0-u64.wrap n))&&decide (u64.wrap (0-u64.wrap n)<18446744073709551616) then bif Du 0 (tl (dg 2 (u64.wrap (0-u64.wrap n)))) (dg 2 (u64.wrap (0-u64.wrap n))) then some ((Value.agg ⟨[Value.bool (true&& !nv (seg (dg 2 (u64.wrap (0-u64.wrap n))) 0 (tl (dg 2 (u64.wrap (0-u64.wrap n)))))==0),Value.string (str (enc (nv (seg (dg 2 (u64.wrap (0-u64.wrap n))) 0 (tl (dg 2 (u64.wrap (0-u64.wrap n))))))))]⟩,[])) else none else none else bif decide (0≤u64.wrap n)&&decide (u64.wrap n<18446744073709551616) then bif Du 0 (tl (dg 2 (u64.wrap n))) (dg 2 (u64.wrap n)) then some ((Value.agg ⟨[Value.bool (false&& !nv (seg (dg 2 (u64.wrap n)) 0 (tl (dg 2 (u64.wrap n))))==0),Value.string (str (enc (nv (seg (dg 2 (u64.wrap n)) 0 (tl (dg 2 (u64.wrap n)))))))]⟩,[])) else none else none:=by kernel_rfl
def rOf.run0:=fun n h0 h1 h2=>((((rOf.run n).ct h0).ct h1).ct h2)
def rOf.run1:=fun n h0 h1 h2=>((((rOf.run n).cf h0).ct h1).ct h2)
theorem rNeg.run (na:Bool) (sa:ByteArray):xfn Tryz.prog ⟨[(96,Valid.sp)],[],[]⟩ [] 10 Tryz.f126 [.agg ⟨[.bool na,.string sa]⟩] []=
 bif !vld na sa then some ((Value.agg ⟨[Value.bool false,Value.string (⟨#[]⟩:ByteArray)]⟩,[])) else bif !na then some ((Value.agg ⟨[Value.bool !sa.toList==(⟨#[]⟩:ByteArray).toList,Value.string sa]⟩,[])) else some ((Value.agg ⟨[Value.bool false,Value.string sa]⟩,[])):=by kernel_rfl
def rNeg.run0:=fun na sa h0=>((rNeg.run na sa).ct h0)
def rNeg.run1:=fun na sa h0 h1=>(((rNeg.run na sa).cf h0).ct h1)
def rNeg.run2:=fun na sa h0 h1=>(((rNeg.run na sa).cf h0).cf h1)
theorem JU.run (na:Bool) (sa:ByteArray):xfn Tryz.prog ⟨[(96,Valid.sp)],[],[]⟩ [] 10 Tryz.f97 [.agg ⟨[.bool na,.string sa]⟩] []=
 bif !vld na sa then some ((Value.int i64 0,[])) else bif sa.toList==(⟨#[]⟩:ByteArray).toList then some ((Value.int i64 0,[])) else bif na then some ((Value.int i64 (-1),[])) else some ((Value.int i64 1,[])):=by kernel_rfl
def JU.run0:=fun na sa h0=>((JU.run na sa).ct h0)
def JU.run1:=fun na sa h0 h1=>(((JU.run na sa).cf h0).ct h1)
def JU.run2:=fun na sa h0 h1 h2=>((((JU.run na sa).cf h0).cf h1).ct h2)
def JU.run3:=fun na sa h0 h1 h2=>((((JU.run na sa).cf h0).cf h1).cf h2)
theorem rAdd.run (na:Bool) (sa:ByteArray) (nb:Bool) (sb:ByteArray):xfn Tryz.prog ⟨[(96,Valid.sp),(121,of.sp),(120,with.sp),(123,compare.sp),(122,add.sp),(124,less.sp)],[],[]⟩ [] 10 Tryz.f101 [.agg ⟨[.bool na,.string sa]⟩,.agg ⟨[.bool nb,.string sb]⟩] []=
 let c0:=seg (dg (nd sa) (bv sa.data.toList)) 0 (tl (dg (nd sa) (bv sa.data.toList)))
 let c1:=seg (dg (nd sb) (bv sb.data.toList)) 0 (tl (dg (nd sb) (bv sb.data.toList)))
 let c2:=dg (max (tl (dg (nd sa) (bv sa.data.toList))) (tl (dg (nd sb) (bv sb.data.toList)))+1) (nv c0+nv c1)
 let c3:=dg (tl (dg (nd sa) (bv sa.data.toList))) (nv c0-nv c1)
 let c4:=dg (tl (dg (nd sb) (bv sb.data.toList))) (nv c1-nv c0)
 bif !vld na sa then some ((Value.agg ⟨[Value.bool false,Value.string (⟨#[]⟩:ByteArray)]⟩,[])) else bif !vld nb sb then some ((Value.agg ⟨[Value.bool false,Value.string (⟨#[]⟩:ByteArray)]⟩,[])) else bif sa.size.ble 8589934592 then bif sb.size.ble 8589934592 then bif na==nb then bif Du 0 (tl (dg (nd sa) (bv sa.data.toList))) (dg (nd sa) (bv sa.data.toList))&&Du 0 (tl (dg (nd sb) (bv sb.data.toList))) (dg (nd sb) (bv sb.data.toList)) then bif Du 0 (tl c2) c2 then some ((Value.agg ⟨[Value.bool (na&& !nv (seg c2 0 (tl c2))==0),Value.string (str (enc (nv (seg c2 0 (tl c2)))))]⟩,[])) else none else none else bif Du 0 (tl (dg (nd sa) (bv sa.data.toList))) (dg (nd sa) (bv sa.data.toList))&&Du 0 (tl (dg (nd sb) (bv sb.data.toList))) (dg (nd sb) (bv sb.data.toList)) then bif decide (cmpI (tl (dg (nd sa) (bv sa.data.toList))) (tl (dg (nd sb) (bv sb.data.toList))) (nv c0) (nv c1)≥0) then bif Du 0 (tl (dg (nd sa) (bv sa.data.toList))) (dg (nd sa) (bv sa.data.toList))&&(Du 0 (tl (dg (nd sb) (bv sb.data.toList))) (dg (nd sb) (bv sb.data.toList))&&decide (nv c1≤nv c0)) then bif Du 0 (tl c3) c3 then some ((Value.agg ⟨[Value.bool (na&& !nv (seg c3 0 (tl c3))==0),Value.string (str (enc (nv (seg c3 0 (tl c3)))))]⟩,[])) else none else none else bif Du 0 (tl (dg (nd sb) (bv sb.data.toList))) (dg (nd sb) (bv sb.data.toList))&&(Du 0 (tl (dg (nd sa) (bv sa.data.toList))) (dg (nd sa) (bv sa.data.toList))&&decide (nv c0≤nv c1)) then bif Du 0 (tl c4) c4 then some ((Value.agg ⟨[Value.bool (nb&& !nv (seg c4 0 (tl c4))==0),Value.string (str (enc (nv (seg c4 0 (tl c4)))))]⟩,[])) else none else none else none else none else none:=by kernel_rfl
def rAdd.run0:=fun na sa nb sb h0=>((rAdd.run na sa nb sb).ct h0)
def rAdd.run1:=fun na sa nb sb h0 h1=>(((rAdd.run na sa nb sb).cf h0).ct h1)
def rAdd.run2:=fun na sa nb sb h0 h1 h2 h3 h4 h5 h6=>((((((((rAdd.run na sa nb sb).cf h0).cf h1).ct h2).ct h3).ct h4).ct h5).ct h6)
def rAdd.run3:=fun na sa nb sb h0 h1 h2 h3 h4 h5 h6 h7 h8=>((((((((((rAdd.run na sa nb sb).cf h0).cf h1).ct h2).ct h3).cf h4).ct h5).ct h6).ct h7).ct h8)
def rAdd.run4:=fun na sa nb sb h0 h1 h2 h3 h4 h5 h6 h7 h8=>((((((((((rAdd.run na sa nb sb).cf h0).cf h1).ct h2).ct h3).cf h4).ct h5).cf h6).ct h7).ct h8)
theorem nvc {n:Nat} {v:Int} (h:0≤v) (h':v<pw n):nv (seg (dg n v) 0 (tl (dg n v)))=v:=by
 rw [Nm (Gn n v) n,I0 n v h h']
theorem okc {n:Nat} (v:Int) (h:n≤4294967296):Du 0 (tl (dg n v)) (dg n v)=true:=by
 have:=Hz (dg n v)
 rw [Di] at this
 exact Eo.2 ⟨by rw [Di]; omega,by omega,Gn n v⟩
theorem Ii {n:Nat} {v:Int} (h:0≤v) (h':v<pw n):v<pw (tl (dg n v)):=by
 have h1:=nvc h h'
 have h2:=Gz (Fg (Gn n v) 0 (tl (dg n v)))
 have h3:=Hz (dg n v)
 rw [h1,Fh (by omega)] at h2
 exact h2
theorem SC {n k:Nat} {v:Int} (h:0≤v) (h':v<pw n) (hk:tl (dg n v)=k+1):pw k≤v:=by
 have:=QX (Gn n v) hk
 rwa [I0 n v h h'] at this
theorem Hh {j k:Nat} (h:j≤k):pw j≤pw k:=by
 have:=Nat.pow_le_pow_right (show 0<4294967296 by decide) h
 simp only [pw]; omega
theorem Om {n m:Nat} {a b:Int} (ha:0≤a) (ha':a<pw n) (hb:0≤b) (hb':b<pw m) (h:tl (dg n a)<tl (dg m b)):a<b:=by
 obtain ⟨k,hk⟩:∃k,tl (dg m b)=k+1:=⟨tl (dg m b)-1,by omega⟩
 have h1:=SC hb hb' hk
 have h2:=Ii ha ha'
 have h3:=Hh (show tl (dg n a)≤k by omega)
 omega
theorem KD {n m:Nat} {a b:Int} (ha:0≤a) (ha':a<pw n) (hb:0≤b) (hb':b<pw m):cmpI (tl (dg n a)) (tl (dg m b)) a b≥0↔b≤a:=by
 unfold cmpI
 split
 ·split
  ·omega
  ·split<;>omega
 ·rename_i hne
  rcases Nat.lt_or_gt_of_ne hne with h|h
  ·have:=Om ha ha' hb hb' h; omega
  ·have:=Om hb hb' ha ha' h; omega
theorem IA (n:Bool) {v:Int} (h:0≤v):iv n v=iI (bif n then -v else v):=by
 unfold iv iI
 cases n with
 | false=>
  have:¬v<0:=by omega
  simp only [cond_false,Bool.false_and,dfalse this]
  rw [show (v.natAbs:Int)=v by omega]
 | true=>
  simp only [cond_true,Bool.true_and]
  rw [show ((-v).natAbs:Int)=v by omega]
  by_cases h0:v=0
  ·subst h0; rfl
  ·rw [Fa h0,dtrue (show -v<0 by omega)]; rfl
theorem H7 (s:ByteArray):bv s.data.toList<pw (nd s):=by
 have h:=Jp s.data.toList
 have h1:s.data.toList.length=s.size:=rfl
 rw [h1] at h
 rw [←MK]
 exact Int.lt_of_lt_of_le h (HA (by unfold nd; omega))
theorem Gm:iI 0= .agg ⟨[.bool false,.string (⟨#[]⟩:ByteArray)]⟩:=rfl
def Of.sp:HSpec
 |[.int .i64 n],[]=>some (decide (-9223372036854775808≤n)&&decide (n≤9223372036854775807),iI n,[])
 |_,_=>none
def Neg.sp:HSpec
 |[.agg ⟨[.bool n,.string s]⟩],[]=>some (true,iI (bif vld n s then -vl n s else 0),[])
 |_,_=>none
def sgn (z:Int):Int:=if z<0 then -1 else if z=0 then 0 else 1
def Sign.sp:HSpec
 |[.agg ⟨[.bool n,.string s]⟩],[]=>some (true,.int .i64 (sgn (bif vld n s then vl n s else 0)),[])
 |_,_=>none
def szOk (s:ByteArray):Bool:=Nat.ble s.size 8589934592
def Add.sp:HSpec
 |[.agg ⟨[.bool na,.string sa]⟩,.agg ⟨[.bool nb,.string sb]⟩],[]=>some (szOk sa&&szOk sb,iI (bif vld na sa&&vld nb sb then vl na sa+vl nb sb else 0),[])
 |_,_=>none
theorem Dp {b:Bool} (h:b=true):(!b)=false:=by rw [h]; rfl
theorem GU {b:Bool} (h:b=false):(!b)=true:=by rw [h]; rfl
theorem Add.ok:SOK Tryz.prog 101 Add.sp:=by
 refine Cu (E:=⟨[(96,Valid.sp),(121,of.sp),(120,with.sp),(123,compare.sp),(122,add.sp),(124,less.sp)],[],[]⟩) (L:=[]) ⟨Aa Valid.ok (Aa of.ok (Aa with.ok (Aa compare.ok (Aa add.ok (Aa Pg.ok Ac))))),Ai,Ad,Ah⟩ 10 Tryz.func101 (by decide) rfl Bv fun vs bl v bl' h=> ?_
 unfold Add.sp at h
 split at h
 ·rename_i na sa nb sb
  simp only [zS,zP,zB] at h
  obtain ⟨⟨h1,h2⟩,rfl,rfl⟩:=h
  refine ⟨?_,by simp [okV],clo_spec 8 _ rfl,Ay rfl⟩
  cases va:vld na sa with
  |false=>exact (rAdd.run0 na sa nb sb (GU va)).trans (by simp only [Bool.false_and,cond_false]; rw [Gm])
  |true=>
  cases vb:vld nb sb with
  |false=>exact (rAdd.run1 na sa nb sb (Dp va) (GU vb)).trans (by simp only [Bool.and_false,cond_false]; rw [Gm])
  |true=>
  have hsa:=zL h1
  have hsb:=zL h2
  have na_:nd sa≤2147483648:=by unfold nd; omega
  have nb_:nd sb≤2147483648:=by unfold nd; omega
  have a0:=Fd sa.data.toList
  have b0:=Fd sb.data.toList
  have a1:=H7 sa
  have b1:=H7 sb
  have oa:=okc (n:=nd sa) (bv sa.data.toList) (by omega)
  have ob:=okc (n:=nd sb) (bv sb.data.toList) (by omega)
  have ta:=Hz (dg (nd sa) (bv sa.data.toList))
  have tb:=Hz (dg (nd sb) (bv sb.data.toList))
  rw [Di] at ta tb
  have oab:(Du 0 (tl (dg (nd sa) (bv sa.data.toList))) (dg (nd sa) (bv sa.data.toList))&&Du 0 (tl (dg (nd sb) (bv sb.data.toList))) (dg (nd sb) (bv sb.data.toList)))=true:=by rw [oa,ob]; rfl
  simp only [Bool.and_true,cond_true]
  cases hn:na==nb with
  | true=>
   have:na=nb:=by simpa using hn
   subst this
   refine (rAdd.run2 na sa na sb (Dp va) (Dp vb) h1 h2 hn oab (okc _ (by omega))).trans ?_
   have hlt:bv sa.data.toList+bv sb.data.toList<pw (max (tl (dg (nd sa) (bv sa.data.toList))) (tl (dg (nd sb) (bv sb.data.toList)))+1):=by
    have q1:=Ii a0 a1
    have q2:=Ii b0 b1
    have q3:=Hh (Nat.le_max_left (tl (dg (nd sa) (bv sa.data.toList))) (tl (dg (nd sb) (bv sb.data.toList))))
    have q4:=Hh (Nat.le_max_right (tl (dg (nd sa) (bv sa.data.toList))) (tl (dg (nd sb) (bv sb.data.toList))))
    rw [GS]; omega
   show some (iv na _,_)=_
   rw [nvc a0 a1,nvc b0 b1,nvc (by omega) hlt,IA na (by omega)]
   unfold vl
   cases na<;>simp only [cond_true,cond_false]<;>congr 3<;>omega
  | false=>
   by_cases hc:bv sb.data.toList≤bv sa.data.toList
   ·have hcm:=(KD a0 a1 b0 b1).2 hc
    refine (rAdd.run3 na sa nb sb (Dp va) (Dp vb) h1 h2 hn oab (by rw [nvc a0 a1,nvc b0 b1]; exact dtrue hcm) (by rw [oa,ob,nvc a0 a1,nvc b0 b1,dtrue hc]; rfl) (okc _ (by omega))).trans ?_
    have hlt:bv sa.data.toList-bv sb.data.toList<pw (tl (dg (nd sa) (bv sa.data.toList))):=by
     have q1:=Ii a0 a1
     omega
    show some (iv na _,_)=_
    rw [nvc a0 a1,nvc b0 b1,nvc (by omega) hlt,IA na (by omega)]
    unfold vl
    cases na<;>cases nb<;>simp at hn<;>simp only [cond_true,cond_false]<;>congr 3<;>omega
   ·have hcm:¬_:=fun q=>hc ((KD a0 a1 b0 b1).1 q)
    refine (rAdd.run4 na sa nb sb (Dp va) (Dp vb) h1 h2 hn oab (by rw [nvc a0 a1,nvc b0 b1]; exact dfalse hcm) (by rw [oa,ob,nvc a0 a1,nvc b0 b1,dtrue (show bv sa.data.toList≤bv sb.data.toList by omega)]; rfl) (okc _ (by omega))).trans ?_
    have hlt:bv sb.data.toList-bv sa.data.toList<pw (tl (dg (nd sb) (bv sb.data.toList))):=by
     have q1:=Ii b0 b1
     omega
    show some (iv nb _,_)=_
    rw [nvc a0 a1,nvc b0 b1,nvc (by omega) hlt,IA nb (by omega)]
    unfold vl
    cases na<;>cases nb<;>simp at hn<;>simp only [cond_true,cond_false]<;>congr 3<;>omega
 ·cases h
theorem Of.ok:SOK Tryz.prog 99 Of.sp:=by
 refine Cu (E:=⟨[(119,word.sp),(120,with.sp)],[],[]⟩) (L:=[]) ⟨Aa word.ok (Aa with.ok Ac),Ai,Ad,Ah⟩ 10 Tryz.func99 (by decide) rfl Bv fun vs bl v bl' h=> ?_
 unfold Of.sp at h
 split at h
 ·rename_i n
  simp only [zS,zP,zB,zD] at h
  obtain ⟨⟨h1,h2⟩,rfl,rfl⟩:=h
  refine ⟨?_,by simp [okV],clo_spec 8 _ rfl,Ay rfl⟩
  have hp:pw 2=18446744073709551616:=by decide
  by_cases hn:n<0
  ·have e:u64.wrap (0-u64.wrap n)= -n:=by rw [wu64,wu64]; omega
   refine (rOf.run0 n (dtrue hn) (by rw [e]; exact dtrue2 (by omega) (by omega)) (okc _ (by decide))).trans ?_
   show some (iv true _,_)=_
   rw [e,nvc (by omega) (by rw [hp]; omega),IA true (by omega)]
   simp only [cond_true,Int.neg_neg]
  ·have e:u64.wrap n=n:=u64of (by omega) (by omega)
   refine (rOf.run1 n (dfalse hn) (by rw [e]; exact dtrue2 (by omega) (by omega)) (okc _ (by decide))).trans ?_
   show some (iv false _,_)=_
   rw [e,nvc (by omega) (by rw [hp]; omega),IA false (by omega)]
   rfl
 ·cases h
theorem Neg.ok:SOK Tryz.prog 126 Neg.sp:=by
 refine Cu (E:=⟨[(96,Valid.sp)],[],[]⟩) (L:=[]) ⟨Aa Valid.ok Ac,Ai,Ad,Ah⟩ 10 Tryz.func126 (by decide) rfl Bv fun vs bl v bl' h=> ?_
 unfold Neg.sp at h
 split at h
 ·rename_i n s
  simp only [zS,zP,true_and] at h
  obtain ⟨rfl,rfl⟩:=h
  refine ⟨?_,by simp [okV],clo_spec 8 _ rfl,Ay rfl⟩
  cases va:vld n s with
  |false=>exact (rNeg.run0 n s (GU va)).trans (by simp only [cond_false]; rw [Gm])
  | true=>
   have ht:=JY va
   have hb:=Fd s.data.toList
   have hstr:str s.data.toList=s:=rfl
   have hnil:(s.toList==(⟨#[]⟩:ByteArray).toList)=(bv s.data.toList==0):=by
    have h1:=HY s.data.toList
    have h2:=HI hb
    rw [JL ht] at h2
    rw [←h2]; exact h1
   have key:∀m:Bool,(.agg ⟨[.bool (m&& !(s.toList==(⟨#[]⟩:ByteArray).toList)),.string s]⟩:Value)=iI (bif m then -bv s.data.toList else bv s.data.toList):=fun m=>by
    rw [hnil,←IA m hb]
    unfold iv
    rw [JL ht,hstr]
   cases n with
   | false=>
    refine (rNeg.run1 false s (Dp va) rfl).trans ?_
    have:=key true
    simp only [Bool.true_and,cond_true] at this
    simp only [cond_true,vl,cond_false,Bool.not_false]
    rw [←this]
   | true=>
    refine (rNeg.run2 true s (Dp va) rfl).trans ?_
    have:=key false
    simp only [Bool.false_and,cond_false] at this
    simp only [cond_true,vl,Int.neg_neg]
    rw [←this]
 ·cases h
theorem Sign.ok:SOK Tryz.prog 97 Sign.sp:=by
 refine Cu (E:=⟨[(96,Valid.sp)],[],[]⟩) (L:=[]) ⟨Aa Valid.ok Ac,Ai,Ad,Ah⟩ 10 Tryz.func97 (by decide) rfl Bv fun vs bl v bl' h=> ?_
 unfold Sign.sp at h
 split at h
 ·rename_i n s
  simp only [zS,zP,true_and] at h
  obtain ⟨rfl,rfl⟩:=h
  refine ⟨?_,by simp [okV],clo_spec 8 _ rfl,Ay rfl⟩
  cases va:vld n s with
  |false=>exact JU.run0 n s (GU va)
  | true=>
   have ht:=JY va
   have hb:=Fd s.data.toList
   have hnil:(s.toList==(⟨#[]⟩:ByteArray).toList)=(bv s.data.toList==0):=by
    have h1:=HY s.data.toList
    have h2:=HI hb
    rw [JL ht] at h2
    rw [←h2]; exact h1
   simp only [cond_true]
   cases h0:bv s.data.toList==0 with
   | true=>
    have h0':bv s.data.toList=0:=by simpa using h0
    refine (JU.run1 n s (Dp va) (by rw [hnil]; exact h0)).trans ?_
    unfold vl
    rw [h0']
    cases n<;>rfl
   | false=>
    have h0':bv s.data.toList≠0:=by simpa using h0
    cases n with
    | true=>
     refine (JU.run2 true s (Dp va) (by rw [hnil]; exact h0) rfl).trans ?_
     have:sgn (vl true s)= -1:=by unfold sgn vl; simp only [cond_true]; rw [if_pos (by omega)]
     rw [this]
    | false=>
     refine (JU.run3 false s (Dp va) (by rw [hnil]; exact h0) rfl).trans ?_
     have:sgn (vl false s)=1:=by unfold sgn vl; simp only [cond_false]; rw [if_neg (by omega),if_neg h0']
     rw [this]
 ·cases h
section
variable {N:Nat→Prop} {xe:X} {Se:St} (o n m:Nat) (c i:Int) (xs:List Int) (ty:TypeId) (nx:Nat)
abbrev put.st:St:=⟨gbuild [(0,.slice (some ⟨0,o,none⟩) n m),(10,.int .u32 c),(11,.int .i64 i)] 0 63,[(0,.is .u32 xs ty)],nx⟩
abbrev put.lk:=RX.lk [0,10,11] [0]
theorem put.rnd:rd Tryz.prog ⟨[],[(136,Tryz.f136)],[]⟩ [] 5 (Ag Tryz.f138 0) (put.st o n m c i xs ty nx) 63 [0,10,11] [0]=
 bif c !=0 then bif decide (0≤i)&&decide (i<((n:Nat):Int)) then bif (o+i.toNat*1).blt xs.length then bif decide (0≤i)&&decide (i<((n:Nat):Int)) then bif (o+i.toNat*1).blt xs.length then put.lk .normal (put.st o n m (u32.wrap ((u64.wrap (u64.wrap (u64.wrap (xs.getD (o+i.toNat*1) 0)+u64.wrap 0)+u64.wrap c)).fdiv (2^min (Int.toNat 32) u64.bits))) (i64.wrap (i+1)) (xs.set (o+i.toNat*1) (u32.wrap (u64.wrap (u64.wrap (u64.wrap (xs.getD (o+i.toNat*1) 0)+u64.wrap 0)+u64.wrap c)))) ty nx) else none else none else none else none else some ((X.exit 0,[Value.slice (some {block:=0,off:=o}) n m,Value.int u32 c,Value.int i64 i],[some (Blk.is u32 xs ty)])):=by kernel_rfl
def put.step0:=fun h0 h1 h2 h3 h4 (ih:Lq Tryz.prog N (Ag Tryz.f138 0) _ xe Se)=>Lq.toK (f:=5) ⟨Ac,Fl ⟨Tryz.func136,by decide,rfl⟩ Ai,Ad,Ah⟩ Be ((((((put.rnd o n m c i xs ty nx).ct h0).ct h1).ct h2).ct h3).ct h4) rfl rfl ih
def put.stop1:=fun h0=>Lq.stop (S2:=⟨gbuild [] 0 63,[(0,Blk.is u32 xs ty)],nx⟩) (N:=N) (f:=5) ⟨Ac,Fl ⟨Tryz.func136,by decide,rfl⟩ Ai,Ad,Ah⟩ Be ((put.rnd o n m c i xs ty nx).cf h0) (fun q=>by cases q) (fun h=>q_of .nil (.cons ⟨rfl,(bname h (m:=0) rfl),rfl⟩ .nil))
end
theorem Sn:∀(xs:List Int) (i:Nat) (v:Int),i<xs.length→nv (xs.set i v)=nv xs+pw i*(v-xs.getD i 0)
 |[],i,v,h=>by simp at h
 |x::r,0,v,_=>by simp [nv,If]; omega
 | x::r,i+1,v,h=>by
  simp only [List.set_cons_succ,nv,List.getD_cons_succ,GS]
  rw [Sn r i v (by simpa using h),Int.mul_add,Int.mul_assoc]
  omega
theorem OX {xs:List Int} (h:dig xs) (i:Nat) {v:Int} (h0:0≤v) (h1:v<4294967296):dig (xs.set i v):=fun x hx=>by
 rcases List.mem_or_eq_of_mem_set hx with hx|rfl
 ·exact h x hx
 ·exact ⟨h0,h1⟩
theorem Mv (xs:List Int) (i:Nat) (v:Int) (h:i<xs.length):nv (xs.set i ((xs.getD i 0+v)%4294967296))+pw (i+1)*((xs.getD i 0+v)/4294967296)=nv xs+pw i*v:=by
 rw [Sn xs i _ h,GS,Int.mul_comm 4294967296,Int.mul_assoc,Int.add_assoc,←Int.mul_add]
 congr 2
 omega
def put.ok (o n:Nat) (c i:Int) (xs:List Int):Bool:=Nat.beq o 0&&(Nat.beq n xs.length&&(Nat.ble n 4294967299&&(digB xs&&(decide (0≤c)&&(decide (c≤1)&&(decide (0≤i)&&decide (nv xs+pw i.toNat*c<pw n)))))))
def put.lt (o n m:Nat) (c i:Int) (xs:List Int) (ty:TypeId) (nx:Nat):LT:= .got (put.ok o n c i xs) (.exit 0) ⟨gbuild [] 0 63,[(0,.is .u32 (dg n (nv xs+pw i.toNat*c)) ty)],nx⟩
theorem put.go {N:Nat→Prop} (n m:Nat) (ty:TypeId) (nx:Nat) (hn:n≤4294967299) (V:Int) (hV:V<pw n):∀(j k:Nat) (c:Int) (xs:List Int),n≤k+j→xs.length=n→dig xs→0≤c→c≤1→nv xs+pw k*c=V→Lq Tryz.prog N (Ag Tryz.f138 0) (put.st 0 n m c (k:Int) xs ty nx) (.exit 0) ⟨gbuild [] 0 63,[(0,.is .u32 (dg n V) ty)],nx⟩
 | j, k, c,xs,hj,hl,hd,hc,hc1,hv=>by
  by_cases h0:c=0
  ·subst h0
   rw [Int.mul_zero,Int.add_zero] at hv
   have:dg n V=xs:=by rw [←hv,←hl]; exact Jn hd
   rw [this]
   exact put.stop1 _ _ _ _ _ _ _ _ rfl
  ·have hlt:k<n:=by
    rcases Nat.lt_or_ge k n with h|h
    ·exact h
    ·exfalso
     have h1:=Hh h
     have h2:=El hd
     have h3:c=1:=by omega
     rw [h3,Int.mul_one] at hv
     omega
   match j,hj with
   |0,hj=>omega
   | j+1,hj=>
    have e0:0+((k:Int)).toNat*1=k:=by simp
    have e1:i64.wrap ((k:Int)+1)=((k+1:Nat):Int):=by rw [w64 (by omega) (by omega)]; omega
    have hX:=Fj hd k
    have c1:(decide (0≤(k:Int))&&decide ((k:Int)<(n:Int)))=true:=dtrue2 (by omega) (by omega)
    have c2:(0+((k:Int)).toNat*1).blt xs.length=true:=by rw [e0]; exact Fi (by omega)
    refine put.step0 _ _ _ _ _ _ _ _ (Em h0) c1 c2 c1 c2 ?_
    rw [e0,e1,Im hX.1 hX.2 (Int.le_refl 0) (by decide) hc hc1,Int.add_zero,Jq (by omega) (by omega),wu32]
    have hcar:=Mv xs k c (by omega)
    exact put.go n m ty nx hn V hV j (k+1) _ _ (by omega) (by rw [List.length_set]; exact hl) (OX hd k (Int.emod_nonneg _ (by decide)) (Int.emod_lt_of_pos _ (by decide))) (by omega) (by omega) (by rw [hcar]; exact hv)
theorem put.lp {N:Nat→Prop} (o n m:Nat) (c i:Int) (xs:List Int) (ty:TypeId) (nx:Nat) {x:X} {S':St} (h:(put.lt o n m c i xs ty nx).at=some (x,S')):Lq Tryz.prog N (Ag Tryz.f138 0) (put.st o n m c i xs ty nx) x S':=by
 obtain ⟨h1,rfl,rfl⟩:=Fw h
 simp only [put.ok,zB,Nat.ble_eq,zD,Hw] at h1
 obtain ⟨h1,h2,h3,h4,h5,h6,h7,h8⟩:=h1
 obtain rfl:=zE h1
 have h2:=zE h2
 obtain ⟨k,rfl⟩:=Int.eq_ofNat_of_zero_le h7
 exact put.go n m ty nx h3 _ h8 n k c xs (by omega) h2.symm h4 h5 h6 rfl
def put.t:LSpec:=fun S=>match RX.nth S.tmps 0,RX.nth S.tmps 10,RX.nth S.tmps 11,RX.look S.heap 0 with
 | .slice (some ⟨0,o,none⟩) n m,.int .u32 c,.int .i64 i,some (.is .u32 xs ty)=>bif Nat.beq S.tmps.length 63 then some (put.lt o n m c i xs ty S.nxt) else none
 |_,_,_,_=>none
theorem put.lok {N:Nat→Prop} :LOKn Tryz.prog N (Ag Tryz.f138 0) (put.t):=by
 refine Ge fun S lt x S' ht hat=> ?_
 unfold put.t at ht
 split at ht
 ·rename_i o n m c i xs ty h0 h10 h11 g0
  cases hb:Nat.beq S.tmps.length 63 with
  |false=>rw [hb] at ht; cases ht
  | true=>
   rw [hb] at ht
   injection ht with ht
   subst ht
   have hb:=zE hb
   exact .enter (fun h=>Gr hb (.cons ⟨h0,bnth h h0⟩ (.cons ⟨h10,bnth h h10⟩ (.cons ⟨h11,bnth h h11⟩ .nil))) (.cons ⟨g0,bname h g0,rfl⟩ .nil)) (put.lp _ _ _ _ _ _ _ _ hat)
 ·cases ht
theorem rput.run (o n m:Nat) (xs:List Int) (at_ x y:Int):xfn Tryz.prog ⟨[],[(136,Tryz.f136),(145,Tryz.f145)],[]⟩ [(0,put.t)] 10 Tryz.f138 [.slice (some ⟨0,o,none⟩) n m,.int .i64 at_,.int .u32 x,.int .u32 y] [.is .u32 xs 144]=
 bif decide (0≤at_)&&decide (at_<((n:Nat):Int)) then bif (o+at_.toNat*1).blt xs.length then bif decide (0≤at_)&&decide (at_<((n:Nat):Int)) then bif (o+at_.toNat*1).blt xs.length then bif decide (0≤i64.wrap (at_+1))&&decide (i64.wrap (at_+1)<((n:Nat):Int)) then bif (o+(i64.wrap (at_+1)).toNat*1).blt (xs.set (o+at_.toNat*1) (u32.wrap (u64.wrap (u64.wrap (u64.wrap (xs.getD (o+at_.toNat*1) 0)+u64.wrap (u32.wrap (u64.wrap (u64.wrap x*u64.wrap y))))+u64.wrap 0)))).length then bif decide (0≤i64.wrap (at_+1))&&decide (i64.wrap (at_+1)<((n:Nat):Int)) then bif (o+(i64.wrap (at_+1)).toNat*1).blt (xs.set (o+at_.toNat*1) (u32.wrap (u64.wrap (u64.wrap (u64.wrap (xs.getD (o+at_.toNat*1) 0)+u64.wrap (u32.wrap (u64.wrap (u64.wrap x*u64.wrap y))))+u64.wrap 0)))).length then bif put.ok o n (u32.wrap ((u64.wrap (u64.wrap (u64.wrap ((xs.set (o+at_.toNat*1) (u32.wrap (u64.wrap (u64.wrap (u64.wrap (xs.getD (o+at_.toNat*1) 0)+u64.wrap (u32.wrap (u64.wrap (u64.wrap x*u64.wrap y))))+u64.wrap 0)))).getD (o+(i64.wrap (at_+1)).toNat*1) 0)+u64.wrap (u32.wrap ((u64.wrap (u64.wrap x*u64.wrap y)).fdiv (2^min (Int.toNat 32) u64.bits))))+u64.wrap (u32.wrap ((u64.wrap (u64.wrap (u64.wrap (xs.getD (o+at_.toNat*1) 0)+u64.wrap (u32.wrap (u64.wrap (u64.wrap x*u64.wrap y))))+u64.wrap 0)).fdiv (2^min (Int.toNat 32) u64.bits))))).fdiv (2^min (Int.toNat 32) u64.bits))) (i64.wrap (at_+2)) ((xs.set (o+at_.toNat*1) (u32.wrap (u64.wrap (u64.wrap (u64.wrap (xs.getD (o+at_.toNat*1) 0)+u64.wrap (u32.wrap (u64.wrap (u64.wrap x*u64.wrap y))))+u64.wrap 0)))).set (o+(i64.wrap (at_+1)).toNat*1) (u32.wrap (u64.wrap (u64.wrap (u64.wrap ((xs.set (o+at_.toNat*1) (u32.wrap (u64.wrap (u64.wrap (u64.wrap (xs.getD (o+at_.toNat*1) 0)+u64.wrap (u32.wrap (u64.wrap (u64.wrap x*u64.wrap y))))+u64.wrap 0)))).getD (o+(i64.wrap (at_+1)).toNat*1) 0)+u64.wrap (u32.wrap ((u64.wrap (u64.wrap x*u64.wrap y)).fdiv (2^min (Int.toNat 32) u64.bits))))+u64.wrap (u32.wrap ((u64.wrap (u64.wrap (u64.wrap (xs.getD (o+at_.toNat*1) 0)+u64.wrap (u32.wrap (u64.wrap (u64.wrap x*u64.wrap y))))+u64.wrap 0)).fdiv (2^min (Int.toNat 32) u64.bits))))))) then some ((Value.tuple ⟨[]⟩,[Blk.is u32 (dg n (nv ((xs.set (o+at_.toNat*1) (u32.wrap (u64.wrap (u64.wrap (u64.wrap (xs.getD (o+at_.toNat*1) 0)+u64.wrap (u32.wrap (u64.wrap (u64.wrap x*u64.wrap y))))+u64.wrap 0)))).set (o+(i64.wrap (at_+1)).toNat*1) (u32.wrap (u64.wrap (u64.wrap (u64.wrap ((xs.set (o+at_.toNat*1) (u32.wrap (u64.wrap (u64.wrap (u64.wrap (xs.getD (o+at_.toNat*1) 0)+u64.wrap (u32.wrap (u64.wrap (u64.wrap x*u64.wrap y))))+u64.wrap 0)))).getD (o+(i64.wrap (at_+1)).toNat*1) 0)+u64.wrap (u32.wrap ((u64.wrap (u64.wrap x*u64.wrap y)).fdiv (2^min (Int.toNat 32) u64.bits))))+u64.wrap (u32.wrap ((u64.wrap (u64.wrap (u64.wrap (xs.getD (o+at_.toNat*1) 0)+u64.wrap (u32.wrap (u64.wrap (u64.wrap x*u64.wrap y))))+u64.wrap 0)).fdiv (2^min (Int.toNat 32) u64.bits)))))))+pw (i64.wrap (at_+2)).toNat*u32.wrap ((u64.wrap (u64.wrap (u64.wrap ((xs.set (o+at_.toNat*1) (u32.wrap (u64.wrap (u64.wrap (u64.wrap (xs.getD (o+at_.toNat*1) 0)+u64.wrap (u32.wrap (u64.wrap (u64.wrap x*u64.wrap y))))+u64.wrap 0)))).getD (o+(i64.wrap (at_+1)).toNat*1) 0)+u64.wrap (u32.wrap ((u64.wrap (u64.wrap x*u64.wrap y)).fdiv (2^min (Int.toNat 32) u64.bits))))+u64.wrap (u32.wrap ((u64.wrap (u64.wrap (u64.wrap (xs.getD (o+at_.toNat*1) 0)+u64.wrap (u32.wrap (u64.wrap (u64.wrap x*u64.wrap y))))+u64.wrap 0)).fdiv (2^min (Int.toNat 32) u64.bits))))).fdiv (2^min (Int.toNat 32) u64.bits)))) 144]))
 else none else none else none else none else none else none else none else none else none:=by kernel_rfl
def rput.run0:=fun o n m xs at_ x y h0 h1 h2 h3 h4 h5 h6 h7 h8=>((((((((((rput.run o n m xs at_ x y).ct h0).ct h1).ct h2).ct h3).ct h4).ct h5).ct h6).ct h7).ct h8)
def Qr (o n:Nat) (xs:List Int) (at_ x y:Int):Bool:=Nat.beq o 0&&(Nat.beq n xs.length&&(Nat.ble n 4294967299&&(digB xs&&(decide (0≤at_)&&(decide (at_+1<(n:Int))&&(decide (0≤x)&&(decide (x<4294967296)&&(decide (0≤y)&&(decide (y<4294967296)&&decide (nv xs+pw at_.toNat*(x*y)<pw n))))))))))
def put.sp:HSpec
 |[.slice (some ⟨0,o,none⟩) n m,.int .i64 at_,.int .u32 x,.int .u32 y],[.is .u32 xs 144]=>some (Qr o n xs at_ x y,.tuple ⟨[]⟩,[.is .u32 (dg n (nv xs+pw at_.toNat*(x*y))) 144])
 |_,_=>none
theorem Ig.ok:SOK Tryz.prog 138 put.sp:=by
 refine Cu (E:=⟨[],[(136,Tryz.f136),(145,Tryz.f145)],[]⟩) (L:=[(0,put.t)]) ⟨Ac,Fl ⟨Tryz.func136,by decide,rfl⟩ (Fl ⟨Tryz.func145,by decide,rfl⟩ Ai),Ad,Ah⟩ 10 Tryz.func138 (by decide) rfl (Ga rfl rfl put.lok) fun vs bl v bl' h=> ?_
 unfold put.sp at h
 split at h
 ·rename_i o n m at_ x y xs
  simp only [zS,zP] at h
  obtain ⟨h1,rfl,rfl⟩:=h
  simp only [Qr,zB,Nat.ble_eq,zD,Hw] at h1
  obtain ⟨h1,h2,h3,hd,h5,h6,x0,x1,y0,y1,hV⟩:=h1
  obtain rfl:=zE h1
  have hl:=(zE h2).symm
  obtain ⟨k,rfl⟩:=Int.eq_ofNat_of_zero_le h5
  refine ⟨?_,by simp [okV,Nat.blt],clo_spec 8 _ rfl,Ay rfl⟩
  have p0:0≤x*y:=Int.mul_nonneg x0 y0
  have p1:x*y≤4294967295*4294967295:=Int.mul_le_mul (by omega) (by omega) (by omega) (by omega)
  have eP:u64.wrap (u64.wrap x*u64.wrap y)=x*y:=by rw [u64of (n:=x) (by omega) (by omega),u64of (n:=y) (by omega) (by omega),u64of (by omega) (by omega)]
  have eHi:u32.wrap ((x*y).fdiv (2^min (Int.toNat 32) u64.bits))=x*y/4294967296:=by
   rw [Int.fdiv_eq_ediv_of_nonneg _ (by decide),show ((2:Int)^min (Int.toNat 32) u64.bits)=4294967296 from rfl,u32of (by omega) (by omega)]
  have e0:0+((k:Int)).toNat*1=k:=by simp
  have e1:i64.wrap ((k:Int)+1)=((k+1:Nat):Int):=by rw [w64 (by omega) (by omega)]; omega
  have e2:i64.wrap ((k:Int)+2)=((k+2:Nat):Int):=by rw [w64 (by omega) (by omega)]; omega
  have e3:0+(((k+1:Nat):Int)).toNat*1=k+1:=by simp
  have hr:=rput.run0 0 n m xs (k:Int) x y
  simp only [eP,eHi,e0,e1,e2,e3] at hr
  rw [wu32 (x*y)] at hr
  have l0:=Int.emod_nonneg (x*y) (show (4294967296:Int)≠0 by decide)
  have l1:=Int.emod_lt_of_pos (x*y) (show (0:Int)<4294967296 by decide)
  have hsplit:x*y=x*y%4294967296+4294967296*(x*y/4294967296):=(Int.emod_add_mul_ediv _ _).symm
  have u0:0≤x*y/4294967296:=by omega
  have u1:x*y/4294967296<4294967295:=by omega
  generalize x*y%4294967296=lo at*
  generalize x*y/4294967296=hi at*
  have hX:=Fj hd k
  rw [Im hX.1 hX.2 l0 l1 (Int.le_refl 0) (by decide),Int.add_zero,Jq (v:=xs.getD k 0+lo) (by omega) (by omega),wu32 (xs.getD k 0+lo)] at hr
  have hd1:dig (xs.set k ((xs.getD k 0+lo)%4294967296)):=OX hd k (Int.emod_nonneg _ (by decide)) (Int.emod_lt_of_pos _ (by decide))
  have hc1:=Mv xs k lo (by omega)
  have hcb0:0≤(xs.getD k 0+lo)/4294967296:=by omega
  have hcb1:(xs.getD k 0+lo)/4294967296≤1:=by omega
  have hl1:(xs.set k ((xs.getD k 0+lo)%4294967296)).length=n:=by rw [List.length_set]; exact hl
  generalize (xs.getD k 0+lo)/4294967296=c1 at*
  generalize xs.set k ((xs.getD k 0+lo)%4294967296)=zs at*
  have hZ:=Fj hd1 (k+1)
  rw [Im hZ.1 hZ.2 u0 (by omega) hcb0 hcb1,Jq (v:=zs.getD (k+1) 0+hi+c1) (by omega) (by omega),wu32 (zs.getD (k+1) 0+hi+c1),Int.add_assoc] at hr
  have hc2:=Mv zs (k+1) (hi+c1) (by omega)
  have hd2:dig (zs.set (k+1) ((zs.getD (k+1) 0+(hi+c1))%4294967296)):=OX hd1 (k+1) (Int.emod_nonneg _ (by decide)) (Int.emod_lt_of_pos _ (by decide))
  have hl2:(zs.set (k+1) ((zs.getD (k+1) 0+(hi+c1))%4294967296)).length=n:=by rw [List.length_set]; exact hl1
  have hfin:nv (zs.set (k+1) ((zs.getD (k+1) 0+(hi+c1))%4294967296))+pw (k+2)*((zs.getD (k+1) 0+(hi+c1))/4294967296)=nv xs+pw k*(x*y):=by
   rw [hc2,Int.mul_add,hsplit,Int.mul_add,←Int.mul_assoc,Int.mul_comm (pw k) 4294967296,←GS]
   omega
  have hcc0:0≤(zs.getD (k+1) 0+(hi+c1))/4294967296:=by omega
  have hcc1:(zs.getD (k+1) 0+(hi+c1))/4294967296≤1:=by omega
  have k1:(decide (0≤(k:Int))&&decide ((k:Int)<(n:Int)))=true:=dtrue2 (by omega) (by omega)
  have k2:k.blt xs.length=true:=Fi (by omega)
  have k3:(decide (0≤((k+1:Nat):Int))&&decide (((k+1:Nat):Int)<(n:Int)))=true:=dtrue2 (by omega) (by omega)
  have k4:(k+1).blt zs.length=true:=Fi (by omega)
  have ht2:(((k+2:Nat):Int)).toNat=k+2:=by omega
  rw [ht2,hfin] at hr
  rw [Int.toNat_natCast]
  refine hr k1 k2 k1 k2 k3 k4 k3 k4 ?_
  simp only [put.ok,zB,Nat.ble_eq,zD,Hw,Nat.beq_eq]
  exact ⟨trivial,hl2.symm,h3,hd2,hcc0,hcc1,by omega,by rw [ht2,hfin]; rw [Int.toNat_natCast] at hV; exact hV⟩
 ·cases h
end Go.Proofs.YtphlckkbihmlnaaGreatDoor.G
end
