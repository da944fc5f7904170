/- A part of what the law's proof leans on. PACKED BY pack.py of this repo. -/
import Derived.Test.YtpejalpgficopaaGreatDoorF10
set_option linter.unusedVariables false
set_option linter.unusedSimpArgs false
set_option linter.unusedSectionVars false
set_option linter.defProp false
set_option maxRecDepth 100000
open Go.IntKind (i64 u64 u32)
section
namespace Go.Proofs.YtpejalpgficopaaGreatDoor.G
open Go Go.Proofs RX
theorem rdv0.run (oa la ca ob lb cb:Nat) (xs ys:List Int):xfnN Tryz.prog ⟨[(190,compare.sp),(215,small.sp),(205,E2.sp),(216,lz.sp),(217,shift.sp),(218,digit.sp)],[],[]⟩ [(0,dv0.t),(2,dv2.t)] 10 Tryz.f203 [.slice (some ⟨0,oa,none⟩) la ca,.slice (some ⟨1,ob,none⟩) lb cb] [.is .u32 xs 64,.is .u32 ys 64] []=
 let c1:=ys.getD (ob+(i64.wrap (((lb:Nat):Int)-1)).toNat*1) 0
 let c0:=dg (lb+1) (nv (seg ys ob lb)*p2 (clz c1).toNat)
 let c2:=i64.wrap (((la+1:Nat):Int)-((tl (seg c0 0 (lb+1)):Nat):Int))
 let c3:=dg (la+1) (nv (dg (la+1) (nv (seg xs oa la)*p2 (clz c1).toNat))%nv (seg c0 0 (tl (seg c0 0 (lb+1)))))
 let c4:=dg c2.toNat (nv (dg (la+1) (nv (seg xs oa la)*p2 (clz c1).toNat))/nv (seg c0 0 (tl (seg c0 0 (lb+1)))))
 bif Di oa la xs&&Di ob lb ys then bif decide (cmpI la lb (nv (seg xs oa la)) (nv (seg ys ob lb))<0) then some ((Value.tuple ⟨[Value.slice none 0 0,Value.slice (some {block:=0,off:=oa}) la ca]⟩,[Blk.is u32 xs 64,Blk.is u32 ys 64])) else bif ((lb:Nat):Int)==1 then bif decide (0≤0)&&decide (0<((lb:Nat):Int)) then bif (ob+Int.toNat 0*1).blt ys.length then bif Di oa la xs&&(decide (0<ys.getD (ob+Int.toNat 0*1) 0)&&decide (ys.getD (ob+Int.toNat 0*1) 0<4294967296)) then some ((Value.tuple ⟨[Value.slice (some {block:=210,off:=0}) (tl (dg la (nv (seg xs oa la)/ys.getD (ob+Int.toNat 0*1) 0))) la,Value.slice (some {block:=338,off:=0}) (tl (seg [nv (seg xs oa la)%ys.getD (ob+Int.toNat 0*1) 0] 0 1)) 1]⟩,[Blk.is u32 xs 64,Blk.is u32 ys 64])) else none else none else none else bif decide (0≤i64.wrap (((lb:Nat):Int)-1))&&decide (i64.wrap (((lb:Nat):Int)-1)<((lb:Nat):Int)) then bif (ob+(i64.wrap (((lb:Nat):Int)-1)).toNat*1).blt ys.length then bif decide (0<ys.getD (ob+(i64.wrap (((lb:Nat):Int)-1)).toNat*1) 0)&&decide (ys.getD (ob+(i64.wrap (((lb:Nat):Int)-1)).toNat*1) 0<4294967296) then bif Di ob lb ys&&(decide (0≤clz c1)&&decide (clz c1≤31)) then bif trim.ok 0 (lb+1) (lb+1) c0 then bif Di oa la xs&&(decide (0≤clz c1)&&decide (clz c1≤31)) then bif decide (0≤i64.wrap (((la+1:Nat):Int)-((tl (seg c0 0 (lb+1)):Nat):Int)))&&(decide (i64.wrap (((la+1:Nat):Int)-((tl (seg c0 0 (lb+1)):Nat):Int))≤i64.wrap (((la+1:Nat):Int)-((tl (seg c0 0 (lb+1)):Nat):Int)))&&(decide (i64.wrap (((la+1:Nat):Int)-((tl (seg c0 0 (lb+1)):Nat):Int))≤140737488355328)&&decide (((3+1:Nat):Int)*i64.wrap (((la+1:Nat):Int)-((tl (seg c0 0 (lb+1)):Nat):Int))≤140737488355328))) then bif dv0.ok (tl (seg c0 0 (lb+1))) (la+1) (la+1) (((tl (seg c0 0 (lb+1)):Nat):Int)) c2.toNat (i64.wrap (i64.wrap (((la+1:Nat):Int)-((tl (seg c0 0 (lb+1)):Nat):Int))-1)) c0 (dg (la+1) (nv (seg xs oa la)*p2 (clz c1).toNat)) (List.replicate (c2.toNat*1) 0) then bif decide (0≤((tl (seg c0 0 (lb+1)):Nat):Int))&&decide (((tl (seg c0 0 (lb+1)):Nat):Int)≤((la+1:Nat):Int))&&true then bif dv2.ok (clz c1) (la+1) ((((tl (seg c0 0 (lb+1)):Nat):Int)).toNat-0) ((((((tl (seg c0 0 (lb+1)):Nat):Int)).toNat-0:Nat):Int)) 0 c3 then bif trim.ok 0 c2.toNat c2.toNat c4 then bif trim.ok 0 ((((tl (seg c0 0 (lb+1)):Nat):Int)).toNat-0) (la+1-0) (ip c3 0 ((((tl (seg c0 0 (lb+1)):Nat):Int)).toNat-0) (nv c3/p2 (clz c1).toNat)) then some ((Value.tuple ⟨[Value.slice (some {block:=530,off:=0}) (tl (seg c4 0 c2.toNat)) c2.toNat,Value.slice (some {block:=386,off:=0}) (tl (seg (ip c3 0 ((((tl (seg c0 0 (lb+1)):Nat):Int)).toNat-0) (nv c3/p2 (clz c1).toNat)) 0 ((((tl (seg c0 0 (lb+1)):Nat):Int)).toNat-0))) (la+1-0)]⟩,[Blk.is u32 xs 64,Blk.is u32 ys 64])) else none else none else none else none else none else none else none else none else none else none else none else none else none:=by kernel_rfl
def rdv0.run0:=fun oa la ca ob lb cb xs ys h0 h1=>(((rdv0.run oa la ca ob lb cb xs ys).ct h0).ct h1)
theorem rdv1.run (oa la ca ob lb cb:Nat) (xs ys:List Int):xfnN Tryz.prog ⟨[(190,compare.sp),(215,small.sp),(205,E2.sp),(216,lz.sp),(217,shift.sp),(218,digit.sp)],[],[]⟩ [(0,dv0.t),(2,dv2.t)] 10 Tryz.f203 [.slice (some ⟨0,oa,none⟩) la ca,.slice (some ⟨1,ob,none⟩) lb cb] [.is .u32 xs 64,.is .u32 ys 64] [210,338]=
 let c1:=ys.getD (ob+(i64.wrap (((lb:Nat):Int)-1)).toNat*1) 0
 let c0:=dg (lb+1) (nv (seg ys ob lb)*p2 (clz c1).toNat)
 let c2:=i64.wrap (((la+1:Nat):Int)-((tl (seg c0 0 (lb+1)):Nat):Int))
 let c3:=dg (la+1) (nv (dg (la+1) (nv (seg xs oa la)*p2 (clz c1).toNat))%nv (seg c0 0 (tl (seg c0 0 (lb+1)))))
 bif Di oa la xs&&Di ob lb ys then bif decide (cmpI la lb (nv (seg xs oa la)) (nv (seg ys ob lb))<0) then none else bif ((lb:Nat):Int)==1 then bif decide (0≤0)&&decide (0<((lb:Nat):Int)) then bif (ob+Int.toNat 0*1).blt ys.length then bif Di oa la xs&&(decide (0<ys.getD (ob+Int.toNat 0*1) 0)&&decide (ys.getD (ob+Int.toNat 0*1) 0<4294967296)) then some ((Value.tuple ⟨[Value.slice (some {block:=210,off:=0}) (tl (dg la (nv (seg xs oa la)/ys.getD (ob+Int.toNat 0*1) 0))) la,Value.slice (some {block:=338,off:=0}) (tl (seg [nv (seg xs oa la)%ys.getD (ob+Int.toNat 0*1) 0] 0 1)) 1]⟩,[Blk.is u32 xs 64,Blk.is u32 ys 64,Blk.is u32 (dg la (nv (seg xs oa la)/ys.getD (ob+Int.toNat 0*1) 0)) 64,Blk.is u32 [nv (seg xs oa la)%ys.getD (ob+Int.toNat 0*1) 0] 64])) else none else none else none else bif decide (0≤i64.wrap (((lb:Nat):Int)-1))&&decide (i64.wrap (((lb:Nat):Int)-1)<((lb:Nat):Int)) then bif (ob+(i64.wrap (((lb:Nat):Int)-1)).toNat*1).blt ys.length then bif decide (0<ys.getD (ob+(i64.wrap (((lb:Nat):Int)-1)).toNat*1) 0)&&decide (ys.getD (ob+(i64.wrap (((lb:Nat):Int)-1)).toNat*1) 0<4294967296) then bif Di ob lb ys&&(decide (0≤clz c1)&&decide (clz c1≤31)) then bif trim.ok 0 (lb+1) (lb+1) c0 then bif Di oa la xs&&(decide (0≤clz c1)&&decide (clz c1≤31)) then bif decide (0≤i64.wrap (((la+1:Nat):Int)-((tl (seg c0 0 (lb+1)):Nat):Int)))&&(decide (i64.wrap (((la+1:Nat):Int)-((tl (seg c0 0 (lb+1)):Nat):Int))≤i64.wrap (((la+1:Nat):Int)-((tl (seg c0 0 (lb+1)):Nat):Int)))&&(decide (i64.wrap (((la+1:Nat):Int)-((tl (seg c0 0 (lb+1)):Nat):Int))≤140737488355328)&&decide (((3+1:Nat):Int)*i64.wrap (((la+1:Nat):Int)-((tl (seg c0 0 (lb+1)):Nat):Int))≤140737488355328))) then bif dv0.ok (tl (seg c0 0 (lb+1))) (la+1) (la+1) (((tl (seg c0 0 (lb+1)):Nat):Int)) c2.toNat (i64.wrap (i64.wrap (((la+1:Nat):Int)-((tl (seg c0 0 (lb+1)):Nat):Int))-1)) c0 (dg (la+1) (nv (seg xs oa la)*p2 (clz c1).toNat)) (List.replicate (c2.toNat*1) 0) then bif decide (0≤((tl (seg c0 0 (lb+1)):Nat):Int))&&decide (((tl (seg c0 0 (lb+1)):Nat):Int)≤((la+1:Nat):Int))&&true then bif dv2.ok (clz c1) (la+1) ((((tl (seg c0 0 (lb+1)):Nat):Int)).toNat-0) ((((((tl (seg c0 0 (lb+1)):Nat):Int)).toNat-0:Nat):Int)) 0 c3 then bif trim.ok 0 c2.toNat c2.toNat (dg c2.toNat (nv (dg (la+1) (nv (seg xs oa la)*p2 (clz c1).toNat))/nv (seg c0 0 (tl (seg c0 0 (lb+1)))))) then bif trim.ok 0 ((((tl (seg c0 0 (lb+1)):Nat):Int)).toNat-0) (la+1-0) (ip c3 0 ((((tl (seg c0 0 (lb+1)):Nat):Int)).toNat-0) (nv c3/p2 (clz c1).toNat)) then none else none else none else none else none else none else none else none else none else none else none else none else none else none:=by kernel_rfl
def rdv1.run0:=fun oa la ca ob lb cb xs ys h0 h1 h2 h3 h4 h5=>(((((((rdv1.run oa la ca ob lb cb xs ys).ct h0).cf h1).ct h2).ct h3).ct h4).ct h5)
theorem rdv2.run (oa la ca ob lb cb:Nat) (xs ys:List Int):xfnN Tryz.prog ⟨[(190,compare.sp),(215,small.sp),(205,E2.sp),(216,lz.sp),(217,shift.sp),(218,digit.sp)],[],[]⟩ [(0,dv0.t),(2,dv2.t)] 10 Tryz.f203 [.slice (some ⟨0,oa,none⟩) la ca,.slice (some ⟨1,ob,none⟩) lb cb] [.is .u32 xs 64,.is .u32 ys 64] [530,386]=
 let c3:=ys.getD (ob+(i64.wrap (((lb:Nat):Int)-1)).toNat*1) 0
 let c0:=dg (lb+1) (nv (seg ys ob lb)*p2 (clz c3).toNat)
 let c1:=ip (dg (la+1) (nv (dg (la+1) (nv (seg xs oa la)*p2 (clz c3).toNat))%nv (seg c0 0 (tl (seg c0 0 (lb+1)))))) 0 ((((tl (seg c0 0 (lb+1)):Nat):Int)).toNat-0) (nv (dg (la+1) (nv (dg (la+1) (nv (seg xs oa la)*p2 (clz c3).toNat))%nv (seg c0 0 (tl (seg c0 0 (lb+1))))))/p2 (clz c3).toNat)
 let c2:=i64.wrap (((la+1:Nat):Int)-((tl (seg c0 0 (lb+1)):Nat):Int))
 let c4:=dg c2.toNat (nv (dg (la+1) (nv (seg xs oa la)*p2 (clz c3).toNat))/nv (seg c0 0 (tl (seg c0 0 (lb+1)))))
 bif Di oa la xs&&Di ob lb ys then bif decide (cmpI la lb (nv (seg xs oa la)) (nv (seg ys ob lb))<0) then none else bif ((lb:Nat):Int)==1 then bif decide (0≤0)&&decide (0<((lb:Nat):Int)) then bif (ob+Int.toNat 0*1).blt ys.length then bif Di oa la xs&&(decide (0<ys.getD (ob+Int.toNat 0*1) 0)&&decide (ys.getD (ob+Int.toNat 0*1) 0<4294967296)) then none else none else none else none else bif decide (0≤i64.wrap (((lb:Nat):Int)-1))&&decide (i64.wrap (((lb:Nat):Int)-1)<((lb:Nat):Int)) then bif (ob+(i64.wrap (((lb:Nat):Int)-1)).toNat*1).blt ys.length then bif decide (0<ys.getD (ob+(i64.wrap (((lb:Nat):Int)-1)).toNat*1) 0)&&decide (ys.getD (ob+(i64.wrap (((lb:Nat):Int)-1)).toNat*1) 0<4294967296) then bif Di ob lb ys&&(decide (0≤clz c3)&&decide (clz c3≤31)) then bif trim.ok 0 (lb+1) (lb+1) c0 then bif Di oa la xs&&(decide (0≤clz c3)&&decide (clz c3≤31)) then bif decide (0≤i64.wrap (((la+1:Nat):Int)-((tl (seg c0 0 (lb+1)):Nat):Int)))&&(decide (i64.wrap (((la+1:Nat):Int)-((tl (seg c0 0 (lb+1)):Nat):Int))≤i64.wrap (((la+1:Nat):Int)-((tl (seg c0 0 (lb+1)):Nat):Int)))&&(decide (i64.wrap (((la+1:Nat):Int)-((tl (seg c0 0 (lb+1)):Nat):Int))≤140737488355328)&&decide (((3+1:Nat):Int)*i64.wrap (((la+1:Nat):Int)-((tl (seg c0 0 (lb+1)):Nat):Int))≤140737488355328))) then bif dv0.ok (tl (seg c0 0 (lb+1))) (la+1) (la+1) (((tl (seg c0 0 (lb+1)):Nat):Int)) c2.toNat (i64.wrap (i64.wrap (((la+1:Nat):Int)-((tl (seg c0 0 (lb+1)):Nat):Int))-1)) c0 (dg (la+1) (nv (seg xs oa la)*p2 (clz c3).toNat)) (List.replicate (c2.toNat*1) 0) then bif decide (0≤((tl (seg c0 0 (lb+1)):Nat):Int))&&decide (((tl (seg c0 0 (lb+1)):Nat):Int)≤((la+1:Nat):Int))&&true then bif dv2.ok (clz c3) (la+1) ((((tl (seg c0 0 (lb+1)):Nat):Int)).toNat-0) ((((((tl (seg c0 0 (lb+1)):Nat):Int)).toNat-0:Nat):Int)) 0 (dg (la+1) (nv (dg (la+1) (nv (seg xs oa la)*p2 (clz c3).toNat))%nv (seg c0 0 (tl (seg c0 0 (lb+1)))))) then bif trim.ok 0 c2.toNat c2.toNat c4 then bif trim.ok 0 ((((tl (seg c0 0 (lb+1)):Nat):Int)).toNat-0) (la+1-0) c1 then some ((Value.tuple ⟨[Value.slice (some {block:=530,off:=0}) (tl (seg c4 0 c2.toNat)) c2.toNat,Value.slice (some {block:=386,off:=0}) (tl (seg c1 0 ((((tl (seg c0 0 (lb+1)):Nat):Int)).toNat-0))) (la+1-0)]⟩,[Blk.is u32 xs 64,Blk.is u32 ys 64,Blk.is u32 c4 64,Blk.is u32 c1 64])) else none else none else none else none else none else none else none else none else none else none else none else none else none:=by kernel_rfl
def rdv2.run0:=fun oa la ca ob lb cb xs ys h0 h1 h2 h3 h4 h5 h6 h7 h8 h9 h10 h11 h12 h13 h14=>((((((((((((((((rdv2.run oa la ca ob lb cb xs ys).ct h0).cf h1).cf h2).ct h3).ct h4).ct h5).ct h6).ct h7).ct h8).ct h9).ct h10).ct h11).ct h12).ct h13).ct h14)
theorem tl_dg:∀ {n m:Nat} {v:Int},0≤v→v<pw m→m≤n→tl (dg n v)=tl (dg m v):=by
 intro n m v h0 h1 h
 obtain ⟨d,rfl⟩:=Nat.exists_eq_add_of_le h
 clear h
 rw [Fg,Int.ediv_eq_zero_of_lt h0 h1,JL]
 clear h0 h1
 induction d with
 |zero=>simp
 |succ d ih=>rw [List.replicate_succ',←List.append_assoc,HZ]; exact ih
theorem QG {n m:Nat} {v:Int} (h0:pw m≤v) (h1:v<pw (m+1)) (h:m+1≤n):tl (dg n v)=m+1:=by
 have hp:=Ep m
 rw [tl_dg (by omega) h1 h,JM,Nm _,Cw]
 rw [Eb] at h1
 have a1:v/pw m<4294967296:=Int.ediv_lt_of_lt_mul hp h1
 have a0:1≤v/pw m:=(Int.le_ediv_iff_mul_le hp).2 (by omega)
 omega
theorem ip_dg {n m:Nat} {R v:Int} (h0:0≤R) (h1:R<pw m) (v0:0≤v) (v1:v<pw m) (h:m≤n):ip (dg n R) 0 m v=dg n v:=by
 obtain ⟨d,rfl⟩:=Nat.exists_eq_add_of_le h
 unfold ip
 rw [Fg m d R,Fg m d v,Int.ediv_eq_zero_of_lt h0 h1,Int.ediv_eq_zero_of_lt v0 v1,List.take_zero,List.nil_append,Nat.zero_add,List.drop_left' (Cw _ _)]
theorem On {n m:Nat} (h:m≤n) (v:Int):seg (dg n v) 0 m=dg m v:=by
 obtain ⟨d,rfl⟩:=Nat.exists_eq_add_of_le h
 unfold seg
 rw [List.drop_zero,Fg,List.take_left' (Cw _ _)]
abbrev dvE:Env:=⟨[(190,compare.sp),(215,small.sp),(205,E2.sp),(216,lz.sp),(217,shift.sp),(218,digit.sp)],[],[]⟩
theorem OF:EnvOk Tryz.prog dvE:=⟨Aa compare.ok (Aa LY.ok (Aa E2.ok (Aa lz.ok (Aa LZ.ok (Aa HS.ok Ac))))),Aq,Aj,Ap⟩
def div0.sp:HSpec
 |[.slice (some ⟨0,oa,none⟩) la ca,.slice (some ⟨1,ob,none⟩) lb cb],[.is .u32 xs 64,.is .u32 ys 64]=>some (Di oa la xs&&Di ob lb ys&&decide (cmpI la lb (nv (seg xs oa la)) (nv (seg ys ob lb))<0),.tuple ⟨[.slice none 0 0,.slice (some ⟨0,oa,none⟩) la ca]⟩,[.is .u32 xs 64,.is .u32 ys 64])
 |_,_=>none
theorem div0.ok:SOK Tryz.prog 203 div0.sp:=by
 refine Fs (E:=dvE) (L:=[(0,dv0.t),(2,dv2.t)]) OF 10 Tryz.func203 (by decide) rfl (GW rfl (Er rfl dv0.lok (Er rfl dv2.lok Bs))) fun vs bl v bl' h=> ?_
 unfold div0.sp at h
 split at h
 ·rename_i oa la ca ob lb cb xs ys
  simp only [zS,zP,zB] at h
  obtain ⟨⟨hA,hB⟩,rfl,rfl⟩:=h
  exact ⟨[],rdv0.run0 oa la ca ob lb cb xs ys (by rw [zB]; exact hA) hB,by simp [okV,Nat.blt],by rfl,Bg rfl,List.nodup_nil,by simp⟩
 ·cases h
def div1.sp:HSpec
 |[.slice (some ⟨0,oa,none⟩) la ca,.slice (some ⟨1,ob,none⟩) lb cb],[.is .u32 xs 64,.is .u32 ys 64]=>some (Di oa la xs&&(Di ob lb ys&&(Nat.beq lb 1&&(decide (0≤cmpI la lb (nv (seg xs oa la)) (nv (seg ys ob lb)))&&decide (0<nv (seg ys ob lb))))),.tuple ⟨[.slice (some ⟨2,0,none⟩) (tl (dg la (nv (seg xs oa la)/nv (seg ys ob lb)))) la,.slice (some ⟨3,0,none⟩) (tl (dg 1 (nv (seg xs oa la)%nv (seg ys ob lb)))) 1]⟩,[.is .u32 xs 64,.is .u32 ys 64,.is .u32 (dg la (nv (seg xs oa la)/nv (seg ys ob lb))) 64,.is .u32 (dg 1 (nv (seg xs oa la)%nv (seg ys ob lb))) 64])
 |_,_=>none
theorem div1.ok:SOK Tryz.prog 203 div1.sp:=by
 refine Fs (E:=dvE) (L:=[(0,dv0.t),(2,dv2.t)]) OF 10 Tryz.func203 (by decide) rfl (GW rfl (Er rfl dv0.lok (Er rfl dv2.lok Bs))) fun vs bl v bl' h=> ?_
 unfold div1.sp at h
 split at h
 ·rename_i oa la ca ob lb cb xs ys
  simp only [zS,zP,zB,zD] at h
  obtain ⟨⟨hA,hB,hl,hc,hp⟩,rfl,rfl⟩:=h
  obtain rfl:=zE hl
  obtain ⟨b1,b2,b3⟩:=Dy.1 hB
  have hY:=EF b3 ob
  have e:nv (seg ys ob 1)=ys.getD ob 0:=by
   rw [N1 (by omega),FH]; simp [nv]
  rw [e] at hp
  have hr:=rdv1.run0 oa la ca ob 1 cb xs ys (by rw [zB]; exact ⟨hA,hB⟩) (dfalse (by omega)) rfl rfl (EM (by simp; omega)) (by rw [zB,zB]; exact ⟨hA,dtrue hp,dtrue hY.2⟩)
  have ez:ob+Int.toNat 0*1=ob:=by simp
  rw [ez] at hr
  have m0:=Int.emod_nonneg (nv (seg xs oa la)) (show ys.getD ob 0≠0 by omega)
  have m1:=Int.emod_lt_of_pos (nv (seg xs oa la)) hp
  have ed:dg 1 (nv (seg xs oa la)%ys.getD ob 0)=[nv (seg xs oa la)%ys.getD ob 0]:=by
   show [_%4294967296]=_
   rw [Int.emod_eq_of_lt m0 (by omega)]
  have es:seg [nv (seg xs oa la)%ys.getD ob 0] 0 1=dg 1 (nv (seg xs oa la)%ys.getD ob 0):=by rw [ed]; rfl
  rw [es,←ed] at hr
  rw [e]
  exact ⟨[210,338],hr,by simp [okV,Nat.blt],by rfl,Bg rfl,by simp,by simp⟩
 ·cases h
def div2.sp:HSpec
 |[.slice (some ⟨0,oa,none⟩) la ca,.slice (some ⟨1,ob,none⟩) lb cb],[.is .u32 xs 64,.is .u32 ys 64]=>some (Di oa la xs&&(Di ob lb ys&&(Nat.ble 2 lb&&(Nat.ble lb la&&(Nat.ble la 4294967295&&(decide (0≤cmpI la lb (nv (seg xs oa la)) (nv (seg ys ob lb)))&&decide (0<ys.getD (ob+(lb-1)) 0)))))),.tuple ⟨[.slice (some ⟨2,0,none⟩) (tl (dg (la+1-lb) (nv (seg xs oa la)/nv (seg ys ob lb)))) (la+1-lb),.slice (some ⟨3,0,none⟩) (tl (dg (la+1) (nv (seg xs oa la)%nv (seg ys ob lb)))) (la+1)]⟩,[.is .u32 xs 64,.is .u32 ys 64,.is .u32 (dg (la+1-lb) (nv (seg xs oa la)/nv (seg ys ob lb))) 64,.is .u32 (dg (la+1) (nv (seg xs oa la)%nv (seg ys ob lb))) 64])
 |_,_=>none
theorem shifted {ys:List Int} {ob lb:Nat} (hd:dig ys) (hl:2≤lb) (h:ob+lb≤ys.length) (ht:0<ys.getD (ob+(lb-1)) 0):
  pw (lb-1)≤nv (seg ys ob lb)∧2147483648*pw (lb-1)≤nv (seg ys ob lb)*p2 (clz (ys.getD (ob+(lb-1)) 0)).toNat∧nv (seg ys ob lb)*p2 (clz (ys.getD (ob+(lb-1)) 0)).toNat<pw lb:=by
 obtain ⟨m,rfl⟩:∃m,lb=m+1:=⟨lb-1,by omega⟩
 rw [show m+1-1=m by omega] at*
 have T:=EF hd (ob+m)
 obtain ⟨k0,k1,k2,k3⟩:=RJ ht T.2
 have a0:=Dx (EB hd ob m)
 have a1:=FF (EB hd ob m)
 rw [EL (by omega)] at a1
 have e:=EU (o:=ob) (l:=m) (show ob+m<ys.length by omega)
 have hp:=Ep m
 have hq:=IZ (clz (ys.getD (ob+m) 0)).toNat
 have hs:=Kx (k:=(clz (ys.getD (ob+m) 0)).toNat) (by omega)
 generalize p2 (clz (ys.getD (ob+m) 0)).toNat=P at*
 generalize p2 (32-(clz (ys.getD (ob+m) 0)).toNat)=P' at*
 generalize ys.getD (ob+m) 0=t at*
 generalize nv (seg ys ob m)=low at*
 rw [e,Eb]
 have ht1:t+1≤P':=by
  refine Int.not_lt.1 fun hz=> ?_
  have:P'*P≤t*P:=Int.mul_le_mul_of_nonneg_right (by omega) (by omega)
  rw [Int.mul_comm P'] at this
  omega
 have h1:pw m*1≤pw m*t:=Int.mul_le_mul_of_nonneg_left (by omega) (by omega)
 refine ⟨by omega,?_,?_⟩
 ·have h2:2147483648*pw m≤(t*P)*pw m:=Int.mul_le_mul_of_nonneg_right k2 (by omega)
  have h3:0≤low*P:=Int.mul_nonneg a0 (by omega)
  rw [Int.add_mul,Int.mul_comm (pw m) t,Int.mul_assoc t,Int.mul_comm (pw m) P,←Int.mul_assoc]
  omega
 ·have h2:(low+pw m*t)*P<(pw m+pw m*t)*P:=Int.mul_lt_mul_of_pos_right (by omega) hq
  have h3:(pw m+pw m*t)*P=pw m*((t+1)*P):=by
   rw [Int.add_mul t,Int.one_mul,Int.mul_add,Int.add_mul,Int.mul_assoc (pw m) t]; omega
  have h4:(t+1)*P≤P'*P:=Int.mul_le_mul_of_nonneg_right ht1 (by omega)
  rw [Int.mul_comm P',hs] at h4
  have h5:pw m*((t+1)*P)≤pw m*4294967296:=Int.mul_le_mul_of_nonneg_left h4 (by omega)
  omega
theorem div2.ok:SOK Tryz.prog 203 div2.sp:=by
 refine Fs (E:=dvE) (L:=[(0,dv0.t),(2,dv2.t)]) OF 10 Tryz.func203 (by decide) rfl (GW rfl (Er rfl dv0.lok (Er rfl dv2.lok Bs))) fun vs bl v bl' h=> ?_
 unfold div2.sp at h
 split at h
 ·rename_i oa la ca ob lb cb xs ys
  simp only [zS,zP,zB,zD,Nat.ble_eq] at h
  obtain ⟨⟨hA,hB,h2,hl,hla,hc,ht⟩,rfl,rfl⟩:=h
  obtain ⟨a1,a2,a3⟩:=Dy.1 hA
  obtain ⟨b1,b2,b3⟩:=Dy.1 hB
  have T:=EF b3 (ob+(lb-1))
  obtain ⟨k0,k1,_,_⟩:=RJ ht T.2
  obtain ⟨v0,v1,v2⟩:=shifted b3 h2 b1 ht
  have w1:i64.wrap ((lb:Int)-1)=((lb-1:Nat):Int):=by rw [w64 (by omega) (by omega)]; omega
  have e1:ob+(((lb-1:Nat):Int)).toNat*1=ob+(lb-1):=by simp
  have hr:=rdv2.run0 oa la ca ob lb cb xs ys
  simp only [w1,e1] at hr
  have A0:=Dx (EB a3 oa la)
  have A1:=FF (EB a3 oa la)
  rw [EL a1] at A1
  have B0:=Dx (EB b3 ob lb)
  have B1:=FF (EB b3 ob lb)
  rw [EL b1] at B1
  have hp:=IZ (clz (ys.getD (ob+(lb-1)) 0)).toNat
  have hp31:=p2_le (k:=(clz (ys.getD (ob+(lb-1)) 0)).toNat) (by omega)
  generalize hk:clz (ys.getD (ob+(lb-1)) 0)=k at*
  generalize hP:p2 k.toNat=P at*
  generalize nv (seg xs oa la)=A at*
  generalize nv (seg ys ob lb)=B at*
  have hBP0:0≤B*P:=Int.mul_nonneg B0 (by omega)
  have hAP0:0≤A*P:=Int.mul_nonneg A0 (by omega)
  have hpm:=Ep (lb-1)
  have eL:(lb-1)+1=lb:=by omega
  have hT:tl (dg (lb+1) (B*P))=lb:=by
   have:=QG (n:=lb+1) (m:=lb-1) (v:=B*P) (by omega) (by rw [eL]; exact v2) (by omega)
   omega
  have hAP1:A*P<pw (la+1):=by
   rw [Eb]
   have h1:A*P≤A*4294967296:=Int.mul_le_mul_of_nonneg_left (by omega) A0
   omega
  have n1:nv (dg (la+1) (A*P))=A*P:=G0 _ _ hAP0 hAP1
  have n2:nv (seg (dg (lb+1) (B*P)) 0 lb)=B*P:=by rw [On (by omega),G0 _ _ hBP0 v2]
  have eS:i64.wrap (((la+1:Nat):Int)-(lb:Int))=((la+1-lb:Nat):Int):=by rw [w64 (by omega) (by omega)]; omega
  have hBpos:0<B:=by omega
  have hd1:A*P/(B*P)=A/B:=by
   rw [Int.mul_comm A,Int.mul_comm B]; exact Int.mul_ediv_mul_of_pos _ _ hp
  have hd2:A*P%(B*P)=(A%B)*P:=by
   rw [Int.mul_comm A,Int.mul_comm B,Int.mul_emod_mul_of_pos _ _ hp,Int.mul_comm]
  have m0:=Int.emod_nonneg A (show B≠0 by omega)
  have m1:=Int.emod_lt_of_pos A hBpos
  have hR0:0≤(A%B)*P:=Int.mul_nonneg m0 (by omega)
  have hR1:(A%B)*P<B*P:=Int.mul_lt_mul_of_pos_right m1 hp
  have hmono:pw lb≤pw (la+1):=Fh (by omega)
  have n3:nv (dg (la+1) ((A%B)*P))=(A%B)*P:=G0 _ _ hR0 (by omega)
  have hd3:(A%B)*P/P=A%B:=Int.mul_ediv_cancel _ (by omega)
  have n4:ip (dg (la+1) ((A%B)*P)) 0 lb (A%B)=dg (la+1) (A%B):=ip_dg hR0 (by omega) m0 (by omega) (by omega)
  have eN:((la+1-lb:Nat):Int).toNat=la+1-lb:=Int.toNat_natCast _
  simp only [hT,n1,n2,eS,hd1,hd2,Int.toNat_natCast,Nat.sub_zero,n3,hd3,n4,On (show lb≤la+1 by omega),Hd,Nat.mul_one] at hr
  rw [←tl_dg (n:=la+1) (m:=lb) (v:=A%B) m0 (by omega) (by omega)] at hr
  have hb:2147483648≤(dg (lb+1) (B*P)).getD (lb-1) 0:=by
   rw [KP (by omega)]
   have q0:2147483648≤B*P/pw (lb-1):=(Int.le_ediv_iff_mul_le hpm).2 v1
   have q1:B*P/pw (lb-1)<4294967296:=Int.ediv_lt_of_lt_mul hpm (by rw [←eL,Eb] at v2; exact v2)
   omega
  have hlt:A*P<B*P*pw (la+1-lb):=by
   have h1:pw (lb-1)*pw (la+1-lb)=pw la:=by rw [←MP]; congr 1; omega
   have h2:pw (lb-1)*pw (la+1-lb)≤B*pw (la+1-lb):=Int.mul_le_mul_of_nonneg_right v0 (by have:=Ep (la+1-lb); omega)
   have h3:A*P<(B*pw (la+1-lb))*P:=Int.mul_lt_mul_of_pos_right (by omega) hp
   rw [Int.mul_assoc,Int.mul_comm (pw _),←Int.mul_assoc] at h3
   exact h3
  refine ⟨[530,386],hr (by rw [zB]; exact ⟨hA,hB⟩) (dfalse (by omega)) ?_ (dtrue2 (by omega) (by omega)) (EM (by omega)) (dtrue2 (by omega) (by omega)) (by rw [zB]; exact ⟨hB,dtrue2 k0 k1⟩) (G2 (Cw _ _) (by omega)) (by rw [zB]; exact ⟨hA,dtrue2 k0 k1⟩) (L3 (by omega)) ?_ ?_ ?_ (G2 (Cw _ _) (by omega)) ?_,by simp [okV,Nat.blt],by rfl,Bg rfl,by simp,by simp⟩
  ·have h1:((lb:Int)==1)=decide ((lb:Int)=1):=rfl
   rw [h1]; exact dfalse (by omega)
  ·simp only [dv0.ok,zB,Nat.ble_eq,zD,Nat.beq_eq,n1,n2,Cw]
   refine ⟨trivial,trivial,by omega,?_,trivial,trivial,Dy.2 ⟨by rw [Cw]; omega,by omega,F4 _ _⟩,h2,Dy.2 ⟨by rw [Cw]; omega,by omega,F4 _ _⟩,hb,hlt⟩
   rw [w64 (by omega) (by omega)]; omega
  ·rw [Bool.and_true]; exact dtrue2 (by omega) (by omega)
  ·simp only [dv2.ok,zB,Nat.ble_eq,zD,Nat.beq_eq,Cw]
   exact ⟨k0,k1,trivial,trivial,by omega,trivial,Dy.2 ⟨by rw [Cw]; omega,by omega,F4 _ _⟩⟩
  ·simp only [trim.ok,zB,Nat.ble_eq,Cw]; omega
 ·cases h
theorem QK {P:Program} {f:FuncId} {s s1 s2:HSpec} (h1:SOK P f s1) (h2:SOK P f s2) (h:∀vs bl v bl',s vs bl=some (true,v,bl')→s1 vs bl=some (true,v,bl')∨s2 vs bl=some (true,v,bl')):SOK P f s:=
 ⟨h1.enter,fun vs bl v bl' hs=>(h vs bl v bl' hs).elim (h1.run vs bl v bl') (h2.run vs bl v bl')⟩
def fq (a b:Int):Int:=if 0≤b then a/b else (-a)/(-b)
def fr (a b:Int):Int:=a-b*fq a b
theorem J4 {A B:Int} (hB:0<B):(-A)/B=if A%B=0 then -(A/B) else -(A/B)-1:=by
 have e:=Int.mul_ediv_add_emod A B
 have m0:=Int.emod_nonneg A (show B≠0 by omega)
 have m1:=Int.emod_lt_of_pos A hB
 split
 ·rename_i h
  have: -A=0+B*(-(A/B)):=by rw [Int.mul_neg]; omega
  rw [this,Int.add_mul_ediv_left _ _ (by omega),Int.zero_ediv,Int.zero_add]
 ·rename_i h
  have: -A=(B-A%B)+B*(-(A/B)-1):=by rw [Int.mul_sub,Int.mul_neg,Int.mul_one]; omega
  rw [this,Int.add_mul_ediv_left _ _ (by omega),Int.ediv_eq_zero_of_lt (by omega) (by omega),Int.zero_add]
theorem M2 (na nb:Bool) {A B:Int} (hA:0≤A) (hB:0<B):fq (bif na then -A else A) (bif nb then -B else B)=bif na==nb then A/B else (if A%B=0 then -(A/B) else -(A/B)-1):=by
 unfold fq
 cases na<;>cases nb<;>simp only [cond_true,cond_false]
 ·rw [if_pos (by omega)]; rfl
 ·rw [if_neg (by omega),Int.neg_neg,J4 hB]; rfl
 ·rw [if_pos (by omega),J4 hB]; rfl
 ·rw [if_neg (by omega),Int.neg_neg,Int.neg_neg]; rfl
theorem Py (na nb:Bool) {A B:Int} (hA:0≤A) (hB:0<B):fr (bif na then -A else A) (bif nb then -B else B)=bif na==nb then (bif na then -(A%B) else A%B) else (if A%B=0 then 0 else (bif na then -(A%B) else A%B)+(bif nb then -B else B)):=by
 unfold fr
 rw [M2 na nb hA hB]
 have e:=Int.mul_ediv_add_emod A B
 cases na<;>cases nb<;>simp only [cond_true,cond_false]<;>(try (show _=_))<;>first|(simp only [show (false==false)=true from rfl,show (true==true)=true from rfl,cond_true,Int.neg_mul,Int.mul_neg,Int.neg_neg]; omega)|(simp only [show (false==true)=false from rfl,show (true==false)=false from rfl,cond_false]; split<;>simp only [Int.neg_mul,Int.mul_neg,Int.mul_sub,Int.mul_one,Int.neg_neg]<;>omega)
theorem ivb (n:Bool) {v:Int} (h:0≤v):(n&& !(v==0))=decide ((bif n then -v else v)<0):=by
 cases n with
 |false=>rw [Bool.false_and,cond_false,dfalse (by omega)]
 | true=>
  rw [Bool.true_and,cond_true]
  by_cases h0:v=0
  ·subst h0; rfl
  ·rw [dtrue (show -v<0 by omega)]
   have:(v==0)=false:=by rw [beq_eq_false_iff_ne]; exact h0
   rw [this]; rfl
theorem ivn (n:Bool) {v:Int} (h:0≤v):(((bif n then -v else v).natAbs:Nat):Int)=v:=by
 cases n<;>simp only [cond_true,cond_false]<;>omega
theorem JP (n:Bool) {v:Int} (h:0≤v):vld (n&& !(v==0)) (str (enc v))=true:=by
 have:=HY (bif n then -v else v)
 rwa [ivn n h,←ivb n h] at this
theorem Lg (n:Bool) {v:Int} (h:0≤v):vl (n&& !(v==0)) (str (enc v))=bif n then -v else v:=by
 have:=Js (bif n then -v else v)
 rwa [ivn n h,←ivb n h] at this
theorem Ha {v:Int} (h:0≤v):((str (enc v)).toList==(⟨#[]⟩:ByteArray).toList)=(v==0):=by
 rw [←Fo h]; exact G6 (enc v)
theorem Oa {n m:Nat} {a b:Int} (ha:0≤a) (ha':a<pw n) (hb:0≤b) (hb':b<pw m) (h:b≤a):tl (dg m b)≤tl (dg n a):=by
 cases ht:tl (dg m b) with
 |zero=>exact Nat.zero_le _
 | succ k=>
  have h1:=Ob (F4 m b) ht
  rw [G0 m b hb hb'] at h1
  have h2:=Gd ha ha'
  refine Nat.lt_of_not_le fun hz=> ?_
  have:=Fh hz
  omega
theorem Nl {m:Nat} {b:Int} (hb:0<b) (hb':b<pw m):1≤tl (dg m b)∧0<(dg m b).getD (0+(tl (dg m b)-1)) 0:=by
 cases ht:tl (dg m b) with
 | zero=>
  have:=(KE (F4 m b)).1 ht
  rw [G0 m b (by omega) hb'] at this
  omega
 | succ k=>
  have h1:=Ob (F4 m b) ht
  rw [G0 m b (by omega) hb'] at h1
  have h2:=Gd (Int.le_of_lt hb) hb'
  rw [ht,Eb] at h2
  have h3:=Fz (dg m b)
  rw [Cw] at h3
  have hp:=Ep k
  refine ⟨by omega,?_⟩
  rw [show k+1-1=k by omega,Nat.zero_add,KP (by omega)]
  have a1:b/pw k<4294967296:=Int.ediv_lt_of_lt_mul hp h2
  have a0:1≤b/pw k:=(Int.le_ediv_iff_mul_le hp).2 (by omega)
  omega
theorem rDM0.run (na:Bool) (sa:ByteArray) (nb:Bool) (sb:ByteArray):xfn Tryz.prog ⟨[(157,Valid.sp),(188,of.sp),(187,with.sp),(203,div0.sp),(169,Sub.sp),(160,Of.sp),(162,Add.sp)],[],[]⟩ [] 10 Tryz.f198 [.agg ⟨[.bool na,.string sa]⟩,.agg ⟨[.bool nb,.string sb]⟩] []=
 let c0:=seg (dg (nd sa) (bv sa.data.toList)) 0 (tl (dg (nd sa) (bv sa.data.toList)))
 bif !vld na sa then some ((Value.tuple ⟨[Value.agg ⟨[Value.bool false,Value.string (⟨#[]⟩:ByteArray)]⟩,Value.agg ⟨[Value.bool false,Value.string (⟨#[]⟩:ByteArray)]⟩,Value.int i64 1]⟩,[])) else bif !vld nb sb then some ((Value.tuple ⟨[Value.agg ⟨[Value.bool false,Value.string (⟨#[]⟩:ByteArray)]⟩,Value.agg ⟨[Value.bool false,Value.string (⟨#[]⟩:ByteArray)]⟩,Value.int i64 1]⟩,[])) else bif sb.toList==(⟨#[]⟩:ByteArray).toList then some ((Value.tuple ⟨[Value.agg ⟨[Value.bool false,Value.string (⟨#[]⟩:ByteArray)]⟩,Value.agg ⟨[Value.bool false,Value.string (⟨#[]⟩:ByteArray)]⟩,Value.int i64 10]⟩,[])) else bif sa.size.ble 8589934592 then bif sb.size.ble 8589934592 then bif Di 0 (tl (dg (nd sa) (bv sa.data.toList))) (dg (nd sa) (bv sa.data.toList))&&Di 0 (tl (dg (nd sb) (bv sb.data.toList))) (dg (nd sb) (bv sb.data.toList))&&decide (cmpI (tl (dg (nd sa) (bv sa.data.toList))) (tl (dg (nd sb) (bv sb.data.toList))) (nv c0) (nv (seg (dg (nd sb) (bv sb.data.toList)) 0 (tl (dg (nd sb) (bv sb.data.toList)))))<0) then bif Di 0 (tl (dg (nd sa) (bv sa.data.toList))) (dg (nd sa) (bv sa.data.toList)) then bif !(str (enc (nv c0))).toList==(⟨#[]⟩:ByteArray).toList then bif !na==nb then bif szOk (str (enc (nv c0)))&&szOk sb then some ((Value.tuple ⟨[Value.agg ⟨[Value.bool (decide ((bif vld (!na==nb&& !(0:Int)==0) (str (enc 0))&&vld (decide ((1:Int)<0)) (str (enc ((Int.natAbs 1:Nat):Int))) then vl (!na==nb&& !(0:Int)==0) (str (enc 0))-vl (decide ((1:Int)<0)) (str (enc ((Int.natAbs 1:Nat):Int))) else 0)<0)),Value.string (str (enc (((bif vld (!na==nb&& !(0:Int)==0) (str (enc 0))&&vld (decide ((1:Int)<0)) (str (enc ((Int.natAbs 1:Nat):Int))) then vl (!na==nb&& !(0:Int)==0) (str (enc 0))-vl (decide ((1:Int)<0)) (str (enc ((Int.natAbs 1:Nat):Int))) else 0).natAbs:Nat):Int)))]⟩,Value.agg ⟨[Value.bool (decide ((bif vld (na&& !nv c0==0) (str (enc (nv c0)))&&vld nb sb then vl (na&& !nv c0==0) (str (enc (nv c0)))+vl nb sb else 0)<0)),Value.string (str (enc (((bif vld (na&& !nv c0==0) (str (enc (nv c0)))&&vld nb sb then vl (na&& !nv c0==0) (str (enc (nv c0)))+vl nb sb else 0).natAbs:Nat):Int)))]⟩,Value.int i64 0]⟩,[])) else none else some ((Value.tuple ⟨[Value.agg ⟨[Value.bool (!na==nb&& !(0:Int)==0),Value.string (str (enc 0))]⟩,Value.agg ⟨[Value.bool (na&& !nv c0==0),Value.string (str (enc (nv c0)))]⟩,Value.int i64 0]⟩,[])) else some ((Value.tuple ⟨[Value.agg ⟨[Value.bool (!na==nb&& !(0:Int)==0),Value.string (str (enc 0))]⟩,Value.agg ⟨[Value.bool (na&& !nv c0==0),Value.string (str (enc (nv c0)))]⟩,Value.int i64 0]⟩,[])) else none else none else none else none:=by kernel_rfl
def rDM0.run0:=fun na sa nb sb h0=>((rDM0.run na sa nb sb).ct h0)
def rDM0.run1:=fun na sa nb sb h0 h1=>(((rDM0.run na sa nb sb).cf h0).ct h1)
def rDM0.run2:=fun na sa nb sb h0 h1 h2=>((((rDM0.run na sa nb sb).cf h0).cf h1).ct h2)
def rDM0.run3:=fun na sa nb sb h0 h1 h2 h3 h4 h5 h6 h7 h8 h9=>(((((((((((rDM0.run na sa nb sb).cf h0).cf h1).cf h2).ct h3).ct h4).ct h5).ct h6).ct h7).ct h8).ct h9)
def rDM0.run4:=fun na sa nb sb h0 h1 h2 h3 h4 h5 h6 h7 h8=>((((((((((rDM0.run na sa nb sb).cf h0).cf h1).cf h2).ct h3).ct h4).ct h5).ct h6).ct h7).cf h8)
def rDM0.run5:=fun na sa nb sb h0 h1 h2 h3 h4 h5 h6 h7=>(((((((((rDM0.run na sa nb sb).cf h0).cf h1).cf h2).ct h3).ct h4).ct h5).ct h6).cf h7)
theorem rDM1.run (na:Bool) (sa:ByteArray) (nb:Bool) (sb:ByteArray):xfn Tryz.prog ⟨[(157,Valid.sp),(188,of.sp),(187,with.sp),(203,div1.sp),(169,Sub.sp),(160,Of.sp),(162,Add.sp)],[],[]⟩ [] 10 Tryz.f198 [.agg ⟨[.bool na,.string sa]⟩,.agg ⟨[.bool nb,.string sb]⟩] []=
 let c4:=seg (dg (nd sb) (bv sb.data.toList)) 0 (tl (dg (nd sb) (bv sb.data.toList)))
 let c0:=dg (tl (dg (nd sa) (bv sa.data.toList))) (nv (seg (dg (nd sa) (bv sa.data.toList)) 0 (tl (dg (nd sa) (bv sa.data.toList))))/nv c4)
 let c1:=dg 1 (nv (seg (dg (nd sa) (bv sa.data.toList)) 0 (tl (dg (nd sa) (bv sa.data.toList))))%nv c4)
 let c2:=str (enc (nv (seg c1 0 (tl c1))))
 let c3:=str (enc (nv (seg c0 0 (tl c0))))
 bif !vld na sa then some ((Value.tuple ⟨[Value.agg ⟨[Value.bool false,Value.string (⟨#[]⟩:ByteArray)]⟩,Value.agg ⟨[Value.bool false,Value.string (⟨#[]⟩:ByteArray)]⟩,Value.int i64 1]⟩,[])) else bif !vld nb sb then some ((Value.tuple ⟨[Value.agg ⟨[Value.bool false,Value.string (⟨#[]⟩:ByteArray)]⟩,Value.agg ⟨[Value.bool false,Value.string (⟨#[]⟩:ByteArray)]⟩,Value.int i64 1]⟩,[])) else bif sb.toList==(⟨#[]⟩:ByteArray).toList then some ((Value.tuple ⟨[Value.agg ⟨[Value.bool false,Value.string (⟨#[]⟩:ByteArray)]⟩,Value.agg ⟨[Value.bool false,Value.string (⟨#[]⟩:ByteArray)]⟩,Value.int i64 10]⟩,[])) else bif sa.size.ble 8589934592 then bif sb.size.ble 8589934592 then bif Di 0 (tl (dg (nd sa) (bv sa.data.toList))) (dg (nd sa) (bv sa.data.toList))&&(Di 0 (tl (dg (nd sb) (bv sb.data.toList))) (dg (nd sb) (bv sb.data.toList))&&((tl (dg (nd sb) (bv sb.data.toList))).beq 1&&(decide (0≤cmpI (tl (dg (nd sa) (bv sa.data.toList))) (tl (dg (nd sb) (bv sb.data.toList))) (nv (seg (dg (nd sa) (bv sa.data.toList)) 0 (tl (dg (nd sa) (bv sa.data.toList))))) (nv c4))&&decide (0<nv c4)))) then bif Di 0 (tl c0) c0 then bif Di 0 (tl c1) c1 then bif !c2.toList==(⟨#[]⟩:ByteArray).toList then bif !na==nb then bif szOk c3&&szOk (str (enc ((Int.natAbs 1:Nat):Int))) then bif szOk c2&&szOk sb then some ((Value.tuple ⟨[Value.agg ⟨[Value.bool (decide ((bif vld (!na==nb&& !nv (seg c0 0 (tl c0))==0) c3&&vld (decide ((1:Int)<0)) (str (enc ((Int.natAbs 1:Nat):Int))) then vl (!na==nb&& !nv (seg c0 0 (tl c0))==0) c3-vl (decide ((1:Int)<0)) (str (enc ((Int.natAbs 1:Nat):Int))) else 0)<0)),Value.string (str (enc (((bif vld (!na==nb&& !nv (seg c0 0 (tl c0))==0) c3&&vld (decide ((1:Int)<0)) (str (enc ((Int.natAbs 1:Nat):Int))) then vl (!na==nb&& !nv (seg c0 0 (tl c0))==0) c3-vl (decide ((1:Int)<0)) (str (enc ((Int.natAbs 1:Nat):Int))) else 0).natAbs:Nat):Int)))]⟩,Value.agg ⟨[Value.bool (decide ((bif vld (na&& !nv (seg c1 0 (tl c1))==0) c2&&vld nb sb then vl (na&& !nv (seg c1 0 (tl c1))==0) c2+vl nb sb else 0)<0)),Value.string (str (enc (((bif vld (na&& !nv (seg c1 0 (tl c1))==0) c2&&vld nb sb then vl (na&& !nv (seg c1 0 (tl c1))==0) c2+vl nb sb else 0).natAbs:Nat):Int)))]⟩,Value.int i64 0]⟩,[])) else none else none else some ((Value.tuple ⟨[Value.agg ⟨[Value.bool (!na==nb&& !nv (seg c0 0 (tl c0))==0),Value.string c3]⟩,Value.agg ⟨[Value.bool (na&& !nv (seg c1 0 (tl c1))==0),Value.string c2]⟩,Value.int i64 0]⟩,[])) else some ((Value.tuple ⟨[Value.agg ⟨[Value.bool (!na==nb&& !nv (seg c0 0 (tl c0))==0),Value.string c3]⟩,Value.agg ⟨[Value.bool (na&& !nv (seg c1 0 (tl c1))==0),Value.string c2]⟩,Value.int i64 0]⟩,[])) else none else none else none else none else none:=by kernel_rfl
def rDM1.run0:=fun na sa nb sb h0=>((rDM1.run na sa nb sb).ct h0)
def rDM1.run1:=fun na sa nb sb h0 h1=>(((rDM1.run na sa nb sb).cf h0).ct h1)
def rDM1.run2:=fun na sa nb sb h0 h1 h2=>((((rDM1.run na sa nb sb).cf h0).cf h1).ct h2)
def rDM1.run3:=fun na sa nb sb h0 h1 h2 h3 h4 h5 h6 h7 h8 h9 h10 h11=>(((((((((((((rDM1.run na sa nb sb).cf h0).cf h1).cf h2).ct h3).ct h4).ct h5).ct h6).ct h7).ct h8).ct h9).ct h10).ct h11)
def rDM1.run4:=fun na sa nb sb h0 h1 h2 h3 h4 h5 h6 h7 h8 h9=>(((((((((((rDM1.run na sa nb sb).cf h0).cf h1).cf h2).ct h3).ct h4).ct h5).ct h6).ct h7).ct h8).cf h9)
def rDM1.run5:=fun na sa nb sb h0 h1 h2 h3 h4 h5 h6 h7 h8=>((((((((((rDM1.run na sa nb sb).cf h0).cf h1).cf h2).ct h3).ct h4).ct h5).ct h6).ct h7).cf h8)
theorem rDM2.run (na:Bool) (sa:ByteArray) (nb:Bool) (sb:ByteArray):xfn Tryz.prog ⟨[(157,Valid.sp),(188,of.sp),(187,with.sp),(203,div2.sp),(169,Sub.sp),(160,Of.sp),(162,Add.sp)],[],[]⟩ [] 10 Tryz.f198 [.agg ⟨[.bool na,.string sa]⟩,.agg ⟨[.bool nb,.string sb]⟩] []=
 let c0:=dg (tl (dg (nd sa) (bv sa.data.toList))+1-tl (dg (nd sb) (bv sb.data.toList))) (nv (seg (dg (nd sa) (bv sa.data.toList)) 0 (tl (dg (nd sa) (bv sa.data.toList))))/nv (seg (dg (nd sb) (bv sb.data.toList)) 0 (tl (dg (nd sb) (bv sb.data.toList)))))
 let c1:=dg (tl (dg (nd sa) (bv sa.data.toList))+1) (nv (seg (dg (nd sa) (bv sa.data.toList)) 0 (tl (dg (nd sa) (bv sa.data.toList))))%nv (seg (dg (nd sb) (bv sb.data.toList)) 0 (tl (dg (nd sb) (bv sb.data.toList)))))
 let c2:=str (enc (nv (seg c1 0 (tl c1))))
 let c3:=str (enc (nv (seg c0 0 (tl c0))))
 bif !vld na sa then some ((Value.tuple ⟨[Value.agg ⟨[Value.bool false,Value.string (⟨#[]⟩:ByteArray)]⟩,Value.agg ⟨[Value.bool false,Value.string (⟨#[]⟩:ByteArray)]⟩,Value.int i64 1]⟩,[])) else bif !vld nb sb then some ((Value.tuple ⟨[Value.agg ⟨[Value.bool false,Value.string (⟨#[]⟩:ByteArray)]⟩,Value.agg ⟨[Value.bool false,Value.string (⟨#[]⟩:ByteArray)]⟩,Value.int i64 1]⟩,[])) else bif sb.toList==(⟨#[]⟩:ByteArray).toList then some ((Value.tuple ⟨[Value.agg ⟨[Value.bool false,Value.string (⟨#[]⟩:ByteArray)]⟩,Value.agg ⟨[Value.bool false,Value.string (⟨#[]⟩:ByteArray)]⟩,Value.int i64 10]⟩,[])) else bif sa.size.ble 8589934592 then bif sb.size.ble 8589934592 then bif Di 0 (tl (dg (nd sa) (bv sa.data.toList))) (dg (nd sa) (bv sa.data.toList))&&(Di 0 (tl (dg (nd sb) (bv sb.data.toList))) (dg (nd sb) (bv sb.data.toList))&&(Nat.ble 2 (tl (dg (nd sb) (bv sb.data.toList)))&&((tl (dg (nd sb) (bv sb.data.toList))).ble (tl (dg (nd sa) (bv sa.data.toList)))&&((tl (dg (nd sa) (bv sa.data.toList))).ble 4294967295&&(decide (0≤cmpI (tl (dg (nd sa) (bv sa.data.toList))) (tl (dg (nd sb) (bv sb.data.toList))) (nv (seg (dg (nd sa) (bv sa.data.toList)) 0 (tl (dg (nd sa) (bv sa.data.toList))))) (nv (seg (dg (nd sb) (bv sb.data.toList)) 0 (tl (dg (nd sb) (bv sb.data.toList))))))&&decide (0<(dg (nd sb) (bv sb.data.toList)).getD (0+(tl (dg (nd sb) (bv sb.data.toList))-1)) 0)))))) then bif Di 0 (tl c0) c0 then bif Di 0 (tl c1) c1 then bif !c2.toList==(⟨#[]⟩:ByteArray).toList then bif !na==nb then bif szOk c3&&szOk (str (enc ((Int.natAbs 1:Nat):Int))) then bif szOk c2&&szOk sb then some ((Value.tuple ⟨[Value.agg ⟨[Value.bool (decide ((bif vld (!na==nb&& !nv (seg c0 0 (tl c0))==0) c3&&vld (decide ((1:Int)<0)) (str (enc ((Int.natAbs 1:Nat):Int))) then vl (!na==nb&& !nv (seg c0 0 (tl c0))==0) c3-vl (decide ((1:Int)<0)) (str (enc ((Int.natAbs 1:Nat):Int))) else 0)<0)),Value.string (str (enc (((bif vld (!na==nb&& !nv (seg c0 0 (tl c0))==0) c3&&vld (decide ((1:Int)<0)) (str (enc ((Int.natAbs 1:Nat):Int))) then vl (!na==nb&& !nv (seg c0 0 (tl c0))==0) c3-vl (decide ((1:Int)<0)) (str (enc ((Int.natAbs 1:Nat):Int))) else 0).natAbs:Nat):Int)))]⟩,Value.agg ⟨[Value.bool (decide ((bif vld (na&& !nv (seg c1 0 (tl c1))==0) c2&&vld nb sb then vl (na&& !nv (seg c1 0 (tl c1))==0) c2+vl nb sb else 0)<0)),Value.string (str (enc (((bif vld (na&& !nv (seg c1 0 (tl c1))==0) c2&&vld nb sb then vl (na&& !nv (seg c1 0 (tl c1))==0) c2+vl nb sb else 0).natAbs:Nat):Int)))]⟩,Value.int i64 0]⟩,[])) else none else none else some ((Value.tuple ⟨[Value.agg ⟨[Value.bool (!na==nb&& !nv (seg c0 0 (tl c0))==0),Value.string c3]⟩,Value.agg ⟨[Value.bool (na&& !nv (seg c1 0 (tl c1))==0),Value.string c2]⟩,Value.int i64 0]⟩,[])) else some ((Value.tuple ⟨[Value.agg ⟨[Value.bool (!na==nb&& !nv (seg c0 0 (tl c0))==0),Value.string c3]⟩,Value.agg ⟨[Value.bool (na&& !nv (seg c1 0 (tl c1))==0),Value.string c2]⟩,Value.int i64 0]⟩,[])) else none else none else none else
 none else none:=by kernel_rfl
def rDM2.run0:=fun na sa nb sb h0=>((rDM2.run na sa nb sb).ct h0)
def rDM2.run1:=fun na sa nb sb h0 h1=>(((rDM2.run na sa nb sb).cf h0).ct h1)
def rDM2.run2:=fun na sa nb sb h0 h1 h2=>((((rDM2.run na sa nb sb).cf h0).cf h1).ct h2)
def rDM2.run3:=fun na sa nb sb h0 h1 h2 h3 h4 h5 h6 h7 h8 h9 h10 h11=>(((((((((((((rDM2.run na sa nb sb).cf h0).cf h1).cf h2).ct h3).ct h4).ct h5).ct h6).ct h7).ct h8).ct h9).ct h10).ct h11)
def rDM2.run4:=fun na sa nb sb h0 h1 h2 h3 h4 h5 h6 h7 h8 h9=>(((((((((((rDM2.run na sa nb sb).cf h0).cf h1).cf h2).ct h3).ct h4).ct h5).ct h6).ct h7).ct h8).cf h9)
def rDM2.run5:=fun na sa nb sb h0 h1 h2 h3 h4 h5 h6 h7 h8=>((((((((((rDM2.run na sa nb sb).cf h0).cf h1).cf h2).ct h3).ct h4).ct h5).ct h6).ct h7).cf h8)
theorem Gz {v:Int} {s:ByteArray} (h0:0≤v) (h:v≤bv s.data.toList) (hs:s.size≤4294967296):szOk (str (enc v))=true:=by
 have h1:=PR s.data.toList
 have h2:s.data.toList.length=s.size:=rfl
 rw [h2] at h1
 have:=LJ h0 (Int.lt_of_le_of_lt h h1)
 simp only [szOk,Nat.ble_eq,Iq]; omega
def dmV (na:Bool) (sa:ByteArray) (nb:Bool) (sb:ByteArray):Value:=
 bif vld na sa&&vld nb sb then (bif bv sb.data.toList==0 then .tuple ⟨[iI 0,iI 0,.int .i64 10]⟩ else .tuple ⟨[iI (fq (vl na sa) (vl nb sb)),iI (fr (vl na sa) (vl nb sb)),.int .i64 0]⟩) else .tuple ⟨[iI 0,iI 0,.int .i64 1]⟩
def dmC (j:Nat) (sa sb:ByteArray):Bool:=match j with
 |0=>decide (bv sa.data.toList<bv sb.data.toList)
 |1=>decide (bv sb.data.toList≤bv sa.data.toList)&&Nat.beq (tl (dg (nd sb) (bv sb.data.toList))) 1
 |_=>decide (bv sb.data.toList≤bv sa.data.toList)&&Nat.ble 2 (tl (dg (nd sb) (bv sb.data.toList)))
def dmS (j:Nat):HSpec
 |[.agg ⟨[.bool na,.string sa]⟩,.agg ⟨[.bool nb,.string sb]⟩],[]=>some (szM sa&&(szM sb&&(!(vld na sa&&vld nb sb&& !(bv sb.data.toList==0))||dmC j sa sb)),dmV na sa nb sb,[])
 |_,_=>none
def DivMod.sp:HSpec
 |[.agg ⟨[.bool na,.string sa]⟩,.agg ⟨[.bool nb,.string sb]⟩],[]=>some (szM sa&&szM sb,dmV na sa nb sb,[])
 |_,_=>none
theorem RI {na nb:Bool} {sa sb:ByteArray} {A B:Int} (hA:bv sa.data.toList=A) (hB:bv sb.data.toList=B) (a0:0≤A) (b0:0<B) (va:vld na sa=true) (vb:vld nb sb=true):
  dmV na sa nb sb= .tuple ⟨[iI (bif na==nb then A/B else (if A%B=0 then -(A/B) else -(A/B)-1)),iI (bif na==nb then (bif na then -(A%B) else A%B) else (if A%B=0 then 0 else (bif na then -(A%B) else A%B)+(bif nb then -B else B))),.int .i64 0]⟩:=by
 unfold dmV
 have hz:(bv sb.data.toList==0)=false:=by rw [beq_eq_false_iff_ne]; omega
 rw [va,vb,Bool.and_self,cond_true,hz,cond_false]
 unfold vl
 rw [hA,hB,M2 na nb a0 b0,Py na nb a0 b0]
theorem DivMod0.ok:SOK Tryz.prog 198 (dmS 0):=by
 refine Dl (E:=⟨[(157,Valid.sp),(188,of.sp),(187,with.sp),(203,div0.sp),(169,Sub.sp),(160,Of.sp),(162,Add.sp)],[],[]⟩) (L:=[]) ⟨Aa Valid.ok (Aa of.ok (Aa with.ok (Aa div0.ok (Aa Sub.ok (Aa Of.ok (Aa Add.ok Ac)))))),Aq,Aj,Ap⟩ 10 Tryz.func198 (by decide) rfl Bf fun vs bl v bl' h=> ?_
 unfold dmS at h
 split at h
 ·rename_i na sa nb sb
  simp only [zS,zP,zB] at h
  obtain ⟨⟨hsa,hsb,hcc⟩,rfl,rfl⟩:=h
  refine ⟨?_,by simp [okV],by unfold dmV; cases vld na sa&&vld nb sb<;>simp only [cond_true,cond_false]<;>(try cases (bv sb.data.toList==0))<;>exact clo_spec 8 _ rfl,Bg rfl⟩
  cases va:vld na sa with
  |false=>exact (rDM0.run0 na sa nb sb (Ee va)).trans (by unfold dmV; rw [va,Bool.false_and,cond_false]; rw [F9])
  |true=>
  cases vb:vld nb sb with
  |false=>exact (rDM0.run1 na sa nb sb (Dh va) (Ee vb)).trans (by unfold dmV; rw [va,vb,Bool.and_false,cond_false]; rw [F9])
  |true=>
  have hsn:(sb.toList==(⟨#[]⟩:ByteArray).toList)=(bv sb.data.toList==0):=by
   have h1:=G6 sb.data.toList
   have h2:=Fo (EV sb.data.toList)
   rw [Hn (IU vb)] at h2
   rw [←h2]; exact h1
  cases hz:(bv sb.data.toList==0) with
  |true=>exact (rDM0.run2 na sa nb sb (Dh va) (Dh vb) (hsn.trans hz)).trans (by unfold dmV; rw [va,vb,hz,Bool.and_self,cond_true,cond_true]; rw [F9])
  |false=>
  have hc:dmC 0 sa sb=true:=by simpa [va,vb,hz] using hcc
  have b0:0<bv sb.data.toList:=by
   have:=EV sb.data.toList
   have:bv sb.data.toList≠0:=by simpa using hz
   omega
  have a0:=EV sa.data.toList
  have a1:=FM sa
  have b1:=FM sb
  have hsa':=zL hsa
  have hsb':=zL hsb
  have na_:nd sa≤1073741825:=by unfold nd; omega
  have nb_:nd sb≤1073741825:=by unfold nd; omega
  generalize hA:bv sa.data.toList=A at*
  generalize hB:bv sb.data.toList=B at*
  have oA:=okc (n:=nd sa) A (by omega)
  have oB:=okc (n:=nd sb) B (by omega)
  have ta:=Fz (dg (nd sa) A)
  have tb:=Fz (dg (nd sb) B)
  rw [Cw] at ta tb
  have q0:0≤A/B:=Int.ediv_nonneg a0 (Int.le_of_lt b0)
  have r0:=Int.emod_nonneg A (show B≠0 by omega)
  have hlt:A<B:=by simpa [dmC,hA,hB] using hc
  have eQ:A/B=0:=Int.ediv_eq_zero_of_lt a0 hlt
  have eR:A%B=A:=Int.emod_eq_of_lt a0 hlt
  have hcm:cmpI (tl (dg (nd sa) A)) (tl (dg (nd sb) B)) A B<0:=by
   have:=II a0 a1 (Int.le_of_lt b0) b1
   omega
  have n3:=rDM0.run3 na sa nb sb (Dh va) (Dh vb) (hsn.trans hz)
  have n4:=rDM0.run4 na sa nb sb (Dh va) (Dh vb) (hsn.trans hz)
  have n5:=rDM0.run5 na sa nb sb (Dh va) (Dh vb) (hsn.trans hz)
  simp only [hA,hB,nvc a0 a1,nvc (Int.le_of_lt b0) b1,eQ,eR] at n3 n4 n5
  have y1:=Nat.ble_eq_true_of_le (show sa.size≤8589934592 by omega)
  have y2:=Nat.ble_eq_true_of_le (show sb.size≤8589934592 by omega)
  replace n3:=n3 y1 y2 (by rw [oA,oB,dtrue hcm]; rfl) oA
  replace n4:=n4 y1 y2 (by rw [oA,oB,dtrue hcm]; rfl) oA
  replace n5:=n5 y1 y2 (by rw [oA,oB,dtrue hcm]; rfl) oA
  simp only [Ha a0,JP (!(na==nb)) (Int.le_refl 0),Lg (!(na==nb)) (Int.le_refl 0),JP na a0,Lg na a0,HY,Js,vb,Bool.and_self,cond_true] at n3 n4 n5
  rw [RI hA hB a0 b0 va vb]
  have vQ:(Value.agg ⟨[.bool (!(na==nb)&& !((0:Int)==0)),.string (str (enc (0:Int)))]⟩)=iI (bif !(na==nb) then -(0:Int) else (0:Int)):=GS (!(na==nb)) (Int.le_refl 0)
  have vR:(Value.agg ⟨[.bool (na&& !(A==0)),.string (str (enc A))]⟩)=iI (bif na then -A else A):=GS na a0
  have hvl:vl nb sb=bif nb then -B else B:=by unfold vl; rw [hB]
  by_cases hR:A%B=0
  ·have hRb:(A==0)=true:=by rw [beq_iff_eq]; omega
   refine (n5 (by rw [hRb]; rfl)).trans ?_
   rw [vQ,vR]
   have eR0:A=0:=by omega
   cases hN:na==nb
   ·rw [hN] at*
    simp only [cond_false,cond_true,Bool.not_false,if_pos hR]
    rw [eR0,show (bif na then -(0:Int) else 0)=0 by cases na<;>rfl] ; rw [Int.zero_ediv]
   ·rw [hN] at*
    simp only [cond_false,cond_true,zN] ; rw [eQ,eR]
  ·have hRb:(A==0)=false:=by rw [beq_eq_false_iff_ne]; omega
   cases hN:na==nb
   ·refine (n3 (by rw [hRb]; rfl) (by rw [hN]; rfl) (by rw [Gz (s:=sa) a0 (by omega) (by omega),H6 hsb]; rfl)).trans ?_
    rw [hvl]
    show some (Value.tuple ⟨[iI ((bif !(na==nb) then -(0:Int) else (0:Int))-1),iI ((bif na then -A else A)+(bif nb then -B else B)),_]⟩,_)=_
    rw [hN]
    simp only [cond_false,cond_true,Bool.not_false,if_neg hR] ; rw [eQ,eR]
   ·refine (n4 (by rw [hRb]; rfl) (by rw [hN]; rfl)).trans ?_
    rw [vQ,vR]
    rw [hN]
    simp only [cond_false,cond_true,zN] ; rw [eQ,eR]
 ·cases h
theorem DivMod1.ok:SOK Tryz.prog 198 (dmS 1):=by
 refine Dl (E:=⟨[(157,Valid.sp),(188,of.sp),(187,with.sp),(203,div1.sp),(169,Sub.sp),(160,Of.sp),(162,Add.sp)],[],[]⟩) (L:=[]) ⟨Aa Valid.ok (Aa of.ok (Aa with.ok (Aa div1.ok (Aa Sub.ok (Aa Of.ok (Aa Add.ok Ac)))))),Aq,Aj,Ap⟩ 10 Tryz.func198 (by decide) rfl Bf fun vs bl v bl' h=> ?_
 unfold dmS at h
 split at h
 ·rename_i na sa nb sb
  simp only [zS,zP,zB] at h
  obtain ⟨⟨hsa,hsb,hcc⟩,rfl,rfl⟩:=h
  refine ⟨?_,by simp [okV],by unfold dmV; cases vld na sa&&vld nb sb<;>simp only [cond_true,cond_false]<;>(try cases (bv sb.data.toList==0))<;>exact clo_spec 8 _ rfl,Bg rfl⟩
  cases va:vld na sa with
  |false=>exact (rDM1.run0 na sa nb sb (Ee va)).trans (by unfold dmV; rw [va,Bool.false_and,cond_false]; rw [F9])
  |true=>
  cases vb:vld nb sb with
  |false=>exact (rDM1.run1 na sa nb sb (Dh va) (Ee vb)).trans (by unfold dmV; rw [va,vb,Bool.and_false,cond_false]; rw [F9])
  |true=>
  have hsn:(sb.toList==(⟨#[]⟩:ByteArray).toList)=(bv sb.data.toList==0):=by
   have h1:=G6 sb.data.toList
   have h2:=Fo (EV sb.data.toList)
   rw [Hn (IU vb)] at h2
   rw [←h2]; exact h1
  cases hz:(bv sb.data.toList==0) with
  |true=>exact (rDM1.run2 na sa nb sb (Dh va) (Dh vb) (hsn.trans hz)).trans (by unfold dmV; rw [va,vb,hz,Bool.and_self,cond_true,cond_true]; rw [F9])
  |false=>
  have hc:dmC 1 sa sb=true:=by simpa [va,vb,hz] using hcc
  have b0:0<bv sb.data.toList:=by
   have:=EV sb.data.toList
   have:bv sb.data.toList≠0:=by simpa using hz
   omega
  have a0:=EV sa.data.toList
  have a1:=FM sa
  have b1:=FM sb
  have hsa':=zL hsa
  have hsb':=zL hsb
  have na_:nd sa≤1073741825:=by unfold nd; omega
  have nb_:nd sb≤1073741825:=by unfold nd; omega
  generalize hA:bv sa.data.toList=A at*
  generalize hB:bv sb.data.toList=B at*
  have oA:=okc (n:=nd sa) A (by omega)
  have oB:=okc (n:=nd sb) B (by omega)
  have ta:=Fz (dg (nd sa) A)
  have tb:=Fz (dg (nd sb) B)
  rw [Cw] at ta tb
  have q0:0≤A/B:=Int.ediv_nonneg a0 (Int.le_of_lt b0)
  have r0:=Int.emod_nonneg A (show B≠0 by omega)
  obtain ⟨hle,h1B⟩:B≤A∧tl (dg (nd sb) B)=1:=by simpa [dmC,hA,hB] using hc
  have hBs:=Gd (Int.le_of_lt b0) b1
  have q1:A/B<pw (tl (dg (nd sa) A)):=Int.lt_of_le_of_lt (Int.ediv_le_self B a0) (Gd a0 a1)
  have r1:A%B<pw 1:=by rw [h1B] at hBs; have:=Int.emod_lt_of_pos A b0; omega
  have hcm:0≤cmpI (tl (dg (nd sa) A)) (tl (dg (nd sb) B)) A B:=(II a0 a1 (Int.le_of_lt b0) b1).2 hle
  have n3:=rDM1.run3 na sa nb sb (Dh va) (Dh vb) (hsn.trans hz)
  have n4:=rDM1.run4 na sa nb sb (Dh va) (Dh vb) (hsn.trans hz)
  have n5:=rDM1.run5 na sa nb sb (Dh va) (Dh vb) (hsn.trans hz)
  simp only [hA,hB,nvc a0 a1,nvc (Int.le_of_lt b0) b1,nvc q0 q1,nvc r0 r1] at n3 n4 n5
  have y1:=Nat.ble_eq_true_of_le (show sa.size≤8589934592 by omega)
  have y2:=Nat.ble_eq_true_of_le (show sb.size≤8589934592 by omega)
  replace n3:=n3 y1 y2 (by rw [oA,oB,h1B,←h1B,dtrue hcm,dtrue b0,h1B]; rfl) (okc _ (by omega)) (okc _ (by omega))
  replace n4:=n4 y1 y2 (by rw [oA,oB,h1B,←h1B,dtrue hcm,dtrue b0,h1B]; rfl) (okc _ (by omega)) (okc _ (by omega))
  replace n5:=n5 y1 y2 (by rw [oA,oB,h1B,←h1B,dtrue hcm,dtrue b0,h1B]; rfl) (okc _ (by omega)) (okc _ (by omega))
  simp only [Ha r0,JP (!(na==nb)) (q0),Lg (!(na==nb)) (q0),JP na r0,Lg na r0,HY,Js,vb,Bool.and_self,cond_true] at n3 n4 n5
  rw [RI hA hB a0 b0 va vb]
  have vQ:(Value.agg ⟨[.bool (!(na==nb)&& !((A/B)==0)),.string (str (enc (A/B)))]⟩)=iI (bif !(na==nb) then -(A/B) else (A/B)):=GS (!(na==nb)) (q0)
  have vR:(Value.agg ⟨[.bool (na&& !((A%B)==0)),.string (str (enc (A%B)))]⟩)=iI (bif na then -(A%B) else (A%B)):=GS na r0
  have hvl:vl nb sb=bif nb then -B else B:=by unfold vl; rw [hB]
  by_cases hR:A%B=0
  ·have hRb:((A%B)==0)=true:=by rw [beq_iff_eq]; omega
   refine (n5 (by rw [hRb]; rfl)).trans ?_
   rw [vQ,vR]
   have eR0:(A%B)=0:=by omega
   cases hN:na==nb
   ·rw [hN] at*
    simp only [cond_false,cond_true,Bool.not_false,if_pos hR]
    rw [eR0,show (bif na then -(0:Int) else 0)=0 by cases na<;>rfl]
   ·rw [hN] at*
    simp only [cond_false,cond_true,zN]
  ·have hRb:((A%B)==0)=false:=by rw [beq_eq_false_iff_ne]; omega
   cases hN:na==nb
   ·refine (n3 (by rw [hRb]; rfl) (by rw [hN]; rfl) (by rw [Gz (s:=sa) q0 (by rw [hA]; exact Int.ediv_le_self B a0) (by omega)]; rfl) (by rw [Gz (s:=sa) r0 (by rw [hA]; have:=Int.mul_ediv_add_emod A B; have:=Int.mul_nonneg (Int.le_of_lt b0) q0; omega) (by omega),H6 hsb]; rfl)).trans ?_
    rw [hvl]
    show some (Value.tuple ⟨[iI ((bif !(na==nb) then -(A/B) else (A/B))-1),iI ((bif na then -(A%B) else (A%B))+(bif nb then -B else B)),_]⟩,_)=_
    rw [hN]
    simp only [cond_false,cond_true,Bool.not_false,if_neg hR]
   ·refine (n4 (by rw [hRb]; rfl) (by rw [hN]; rfl)).trans ?_
    rw [vQ,vR]
    rw [hN]
    simp only [cond_false,cond_true,zN]
 ·cases h
theorem DivMod2.ok:SOK Tryz.prog 198 (dmS 2):=by
 refine Dl (E:=⟨[(157,Valid.sp),(188,of.sp),(187,with.sp),(203,div2.sp),(169,Sub.sp),(160,Of.sp),(162,Add.sp)],[],[]⟩) (L:=[]) ⟨Aa Valid.ok (Aa of.ok (Aa with.ok (Aa div2.ok (Aa Sub.ok (Aa Of.ok (Aa Add.ok Ac)))))),Aq,Aj,Ap⟩ 10 Tryz.func198 (by decide) rfl Bf fun vs bl v bl' h=> ?_
 unfold dmS at h
 split at h
 ·rename_i na sa nb sb
  simp only [zS,zP,zB] at h
  obtain ⟨⟨hsa,hsb,hcc⟩,rfl,rfl⟩:=h
  refine ⟨?_,by simp [okV],by unfold dmV; cases vld na sa&&vld nb sb<;>simp only [cond_true,cond_false]<;>(try cases (bv sb.data.toList==0))<;>exact clo_spec 8 _ rfl,Bg rfl⟩
  cases va:vld na sa with
  |false=>exact (rDM2.run0 na sa nb sb (Ee va)).trans (by unfold dmV; rw [va,Bool.false_and,cond_false]; rw [F9])
  |true=>
  cases vb:vld nb sb with
  |false=>exact (rDM2.run1 na sa nb sb (Dh va) (Ee vb)).trans (by unfold dmV; rw [va,vb,Bool.and_false,cond_false]; rw [F9])
  |true=>
  have hsn:(sb.toList==(⟨#[]⟩:ByteArray).toList)=(bv sb.data.toList==0):=by
   have h1:=G6 sb.data.toList
   have h2:=Fo (EV sb.data.toList)
   rw [Hn (IU vb)] at h2
   rw [←h2]; exact h1
  cases hz:(bv sb.data.toList==0) with
  |true=>exact (rDM2.run2 na sa nb sb (Dh va) (Dh vb) (hsn.trans hz)).trans (by unfold dmV; rw [va,vb,hz,Bool.and_self,cond_true,cond_true]; rw [F9])
  |false=>
  have hc:dmC 2 sa sb=true:=by simpa [va,vb,hz] using hcc
  have b0:0<bv sb.data.toList:=by
   have:=EV sb.data.toList
   have:bv sb.data.toList≠0:=by simpa using hz
   omega
  have a0:=EV sa.data.toList
  have a1:=FM sa
  have b1:=FM sb
  have hsa':=zL hsa
  have hsb':=zL hsb
  have na_:nd sa≤1073741825:=by unfold nd; omega
  have nb_:nd sb≤1073741825:=by unfold nd; omega
  generalize hA:bv sa.data.toList=A at*
  generalize hB:bv sb.data.toList=B at*
  have oA:=okc (n:=nd sa) A (by omega)
  have oB:=okc (n:=nd sb) B (by omega)
  have ta:=Fz (dg (nd sa) A)
  have tb:=Fz (dg (nd sb) B)
  rw [Cw] at ta tb
  have q0:0≤A/B:=Int.ediv_nonneg a0 (Int.le_of_lt b0)
  have r0:=Int.emod_nonneg A (show B≠0 by omega)
  obtain ⟨hle,h2B⟩:B≤A∧2≤tl (dg (nd sb) B):=by simpa [dmC,hA,hB] using hc
  have hBs:=Gd (Int.le_of_lt b0) b1
  have hAs:=Gd a0 a1
  have hml:=Oa a0 a1 (Int.le_of_lt b0) b1 hle
  obtain ⟨_,htop⟩:=Nl b0 b1
  have q1:A/B<pw (tl (dg (nd sa) A)+1-tl (dg (nd sb) B)):=by
   refine Int.ediv_lt_of_lt_mul b0 ?_
   have g1:pw (tl (dg (nd sb) B)-1)≤B:=QF (Int.le_of_lt b0) b1 (by omega)
   have g2:pw (tl (dg (nd sb) B)-1)*pw (tl (dg (nd sa) A)+1-tl (dg (nd sb) B))=pw (tl (dg (nd sa) A)):=by rw [←MP]; congr 1; omega
   have g3:pw (tl (dg (nd sb) B)-1)*pw (tl (dg (nd sa) A)+1-tl (dg (nd sb) B))≤B*pw (tl (dg (nd sa) A)+1-tl (dg (nd sb) B)):=Int.mul_le_mul_of_nonneg_right g1 (by have:=Ep (tl (dg (nd sa) A)+1-tl (dg (nd sb) B)); omega)
   rw [Int.mul_comm] at g3
   rw [Int.mul_comm] at g2
   have g4:=Int.mul_comm B (pw (tl (dg (nd sa) A)+1-tl (dg (nd sb) B)))
   omega
  have r1:A%B<pw (tl (dg (nd sa) A)+1):=by
   have:=Fh (show tl (dg (nd sa) A)≤tl (dg (nd sa) A)+1 by omega)
   have:=Int.emod_lt_of_pos A b0
   omega
  have hcm:0≤cmpI (tl (dg (nd sa) A)) (tl (dg (nd sb) B)) A B:=(II a0 a1 (Int.le_of_lt b0) b1).2 hle
  have n3:=rDM2.run3 na sa nb sb (Dh va) (Dh vb) (hsn.trans hz)
  have n4:=rDM2.run4 na sa nb sb (Dh va) (Dh vb) (hsn.trans hz)
  have n5:=rDM2.run5 na sa nb sb (Dh va) (Dh vb) (hsn.trans hz)
  simp only [hA,hB,nvc a0 a1,nvc (Int.le_of_lt b0) b1,nvc q0 q1,nvc r0 r1] at n3 n4 n5
  have y1:=Nat.ble_eq_true_of_le (show sa.size≤8589934592 by omega)
  have y2:=Nat.ble_eq_true_of_le (show sb.size≤8589934592 by omega)
  replace n3:=n3 y1 y2 (by simp only [oA,oB,dtrue hcm,dtrue htop,Bool.and_true,Bool.true_and,zB,Nat.ble_eq]; omega) (okc _ (by omega)) (okc _ (by omega))
  replace n4:=n4 y1 y2 (by simp only [oA,oB,dtrue hcm,dtrue htop,Bool.and_true,Bool.true_and,zB,Nat.ble_eq]; omega) (okc _ (by omega)) (okc _ (by omega))
  replace n5:=n5 y1 y2 (by simp only [oA,oB,dtrue hcm,dtrue htop,Bool.and_true,Bool.true_and,zB,Nat.ble_eq]; omega) (okc _ (by omega)) (okc _ (by omega))
  simp only [Ha r0,JP (!(na==nb)) (q0),Lg (!(na==nb)) (q0),JP na r0,Lg na r0,HY,Js,vb,Bool.and_self,cond_true] at n3 n4 n5
  rw [RI hA hB a0 b0 va vb]
  have vQ:(Value.agg ⟨[.bool (!(na==nb)&& !((A/B)==0)),.string (str (enc (A/B)))]⟩)=iI (bif !(na==nb) then -(A/B) else (A/B)):=GS (!(na==nb)) (q0)
  have vR:(Value.agg ⟨[.bool (na&& !((A%B)==0)),.string (str (enc (A%B)))]⟩)=iI (bif na then -(A%B) else (A%B)):=GS na r0
  have hvl:vl nb sb=bif nb then -B else B:=by unfold vl; rw [hB]
  by_cases hR:A%B=0
  ·have hRb:((A%B)==0)=true:=by rw [beq_iff_eq]; omega
   refine (n5 (by rw [hRb]; rfl)).trans ?_
   rw [vQ,vR]
   have eR0:(A%B)=0:=by omega
   cases hN:na==nb
   ·rw [hN] at*
    simp only [cond_false,cond_true,Bool.not_false,if_pos hR]
    rw [eR0,show (bif na then -(0:Int) else 0)=0 by cases na<;>rfl]
   ·rw [hN] at*
    simp only [cond_false,cond_true,zN]
  ·have hRb:((A%B)==0)=false:=by rw [beq_eq_false_iff_ne]; omega
   cases hN:na==nb
   ·refine (n3 (by rw [hRb]; rfl) (by rw [hN]; rfl) (by rw [Gz (s:=sa) q0 (by rw [hA]; exact Int.ediv_le_self B a0) (by omega)]; rfl) (by rw [Gz (s:=sa) r0 (by rw [hA]; have:=Int.mul_ediv_add_emod A B; have:=Int.mul_nonneg (Int.le_of_lt b0) q0; omega) (by omega),H6 hsb]; rfl)).trans ?_
    rw [hvl]
    show some (Value.tuple ⟨[iI ((bif !(na==nb) then -(A/B) else (A/B))-1),iI ((bif na then -(A%B) else (A%B))+(bif nb then -B else B)),_]⟩,_)=_
    rw [hN]
    simp only [cond_false,cond_true,Bool.not_false,if_neg hR]
   ·refine (n4 (by rw [hRb]; rfl) (by rw [hN]; rfl)).trans ?_
    rw [vQ,vR]
    rw [hN]
    simp only [cond_false,cond_true,zN]
 ·cases h
theorem DivMod.ok:SOK Tryz.prog 198 DivMod.sp:=by
 refine QK (s1:=dmS 0) (s2:=fun vs bl=>match vs,bl with|[.agg ⟨[.bool na,.string sa]⟩,.agg ⟨[.bool nb,.string sb]⟩],[]=>some (szM sa&&(szM sb&&(!(vld na sa&&vld nb sb&& !(bv sb.data.toList==0))||(dmC 1 sa sb||dmC 2 sa sb))),dmV na sa nb sb,[])|_,_=>none) DivMod0.ok (QK (s1:=dmS 1) (s2:=dmS 2) DivMod1.ok DivMod2.ok ?_) ?_
 ·intro vs bl v bl' h
  split at h
  ·rename_i na sa nb sb
   simp only [zS,zP,zB,Bool.or_eq_true] at h
   obtain ⟨⟨h1,h2,h3⟩,rfl,rfl⟩:=h
   unfold dmS
   simp only [zS,zP,zB,Bool.or_eq_true]
   rcases h3 with h3|h3|h3
   ·exact .inl ⟨⟨h1,h2,.inl h3⟩,trivial⟩
   ·exact .inl ⟨⟨h1,h2,.inr h3⟩,trivial⟩
   ·exact .inr ⟨⟨h1,h2,.inr h3⟩,trivial⟩
  ·cases h
 ·intro vs bl v bl' h
  unfold DivMod.sp at h
  split at h
  ·rename_i na sa nb sb
   simp only [zS,zP,zB] at h
   obtain ⟨⟨h1,h2⟩,rfl,rfl⟩:=h
   unfold dmS
   simp only [zS,zP,zB,Bool.or_eq_true]
   cases hz:(vld na sa&&vld nb sb&& !(bv sb.data.toList==0)) with
   |false=>exact .inl ⟨⟨h1,h2,.inl rfl⟩,trivial⟩
   | true=>
    by_cases hlt:bv sa.data.toList<bv sb.data.toList
    ·exact .inl ⟨⟨h1,h2,.inr (dtrue hlt)⟩,trivial⟩
    ·refine .inr ⟨⟨h1,h2,.inr ?_⟩,trivial⟩
     have b0:0<bv sb.data.toList:=by
      have h5:=EV sb.data.toList
      simp only [zB,Bool.not_eq_true',beq_eq_false_iff_ne] at hz
      omega
     obtain ⟨ht,_⟩:=Nl b0 (FM sb)
     by_cases h1B:tl (dg (nd sb) (bv sb.data.toList))=1
     ·refine .inl ?_
      simp only [dmC,zB,zD,Nat.beq_eq]; omega
     ·refine .inr ?_
      simp only [dmC,zB,zD,Nat.ble_eq]; omega
  ·cases h
section
variable {N:Nat→Prop} {xe:X} {Se:St} (zb:Bool) (zs:ByteArray) (lx cx ly cy:Nat) (xs ys:List Int)
abbrev gcd0.st:St:=⟨gbuild [(4,.pointer (some ⟨32,0,none⟩)),(5,.slice (some ⟨208,0,none⟩) lx cx),(6,.slice (some ⟨256,0,none⟩) ly cy)] 0 65,[(208,.is .u32 xs 64),(256,.is .u32 ys 64),(32,.cs [Value.bool zb,Value.string zs] 23)],304⟩
theorem gcd0.rnd:rd Tryz.prog ⟨[(203,div0.sp)],[],[]⟩ [] 5 (Ay Tryz.f185 0) (gcd0.st zb zs lx cx ly cy xs ys) 65 [4,5,6] [208,256,32]=
 bif decide (((ly:Nat):Int)>2) then bif Di 0 lx xs&&Di 0 ly ys&&decide (cmpI lx ly (nv (seg xs 0 lx)) (nv (seg ys 0 ly))<0) then some ((X.normal,[Value.pointer (some {block:=32,off:=0}),Value.slice (some {block:=256,off:=0}) ly cy,Value.slice (some {block:=208,off:=0}) lx cx],[some (Blk.is u32 xs 64),some (Blk.is u32 ys 64),some (Blk.cs [Value.bool zb,Value.string zs] 23)])) else none else bif decide (((lx:Nat):Int)>2) then bif decide (((ly:Nat):Int)>0) then bif Di 0 lx xs&&Di 0 ly ys&&decide (cmpI lx ly (nv (seg xs 0 lx)) (nv (seg ys 0 ly))<0) then some ((X.normal,[Value.pointer (some {block:=32,off:=0}),Value.slice (some {block:=256,off:=0}) ly cy,Value.slice (some {block:=208,off:=0}) lx cx],[some (Blk.is u32 xs 64),some (Blk.is u32 ys 64),some (Blk.cs [Value.bool zb,Value.string zs] 23)])) else none else some ((X.exit 0,[Value.pointer (some {block:=32,off:=0}),Value.slice (some {block:=208,off:=0}) lx cx,Value.slice (some {block:=256,off:=0}) ly cy],[some (Blk.is u32 xs 64),some (Blk.is u32 ys 64),some (Blk.cs [Value.bool zb,Value.string zs] 23)])) else some ((X.exit 0,[Value.pointer (some {block:=32,off:=0}),Value.slice (some {block:=208,off:=0}) lx cx,Value.slice (some {block:=256,off:=0}) ly cy],[some (Blk.is u32 xs 64),some (Blk.is u32 ys 64),some (Blk.cs [Value.bool zb,Value.string zs] 23)])):=by kernel_rfl
def gcd0.step0:=fun h0 h1 (ih:Lq Tryz.prog (fun n=>n=0) (Ay Tryz.f185 0) (gcd0.st zb zs ly cy lx cx ys xs) xe (Se))=>Lq.step (S2:=gcd0.st zb zs ly cy lx cx ys xs) (f:=5) ⟨Aa div0.ok Ac,Aq,Aj,Ap⟩ Bs (((gcd0.rnd zb zs lx cx ly cy xs ys).ct h0).ct h1) (fun h=>K0 (ρ:=mp [(208,256),(256,208)]) (.cons ⟨⟨_,rfl,(ruP rfl)⟩,(bptr (zL rfl))⟩ (.cons ⟨⟨_,rfl,(ruS rfl)⟩,(bslice (zL rfl))⟩ (.cons ⟨⟨_,rfl,(ruS rfl)⟩,(bslice (zL rfl))⟩ .nil))) (.cons ⟨rfl,(zL rfl),rfl⟩ (.cons ⟨rfl,(zL rfl),rfl⟩ (.cons ⟨rfl,(zL rfl),rfl⟩ .nil))) rfl) ih
def gcd0.step1:=fun h0 h1 h2 h3 (ih:Lq Tryz.prog (fun n=>n=0) (Ay Tryz.f185 0) (gcd0.st zb zs ly cy lx cx ys xs) xe (Se))=>Lq.step (S2:=gcd0.st zb zs ly cy lx cx ys xs) (f:=5) ⟨Aa div0.ok Ac,Aq,Aj,Ap⟩ Bs (((((gcd0.rnd zb zs lx cx ly cy xs ys).cf h0).ct h1).ct h2).ct h3) (fun h=>K0 (ρ:=mp [(208,256),(256,208)]) (.cons ⟨⟨_,rfl,(ruP rfl)⟩,(bptr (zL rfl))⟩ (.cons ⟨⟨_,rfl,(ruS rfl)⟩,(bslice (zL rfl))⟩ (.cons ⟨⟨_,rfl,(ruS rfl)⟩,(bslice (zL rfl))⟩ .nil))) (.cons ⟨rfl,(zL rfl),rfl⟩ (.cons ⟨rfl,(zL rfl),rfl⟩ (.cons ⟨rfl,(zL rfl),rfl⟩ .nil))) rfl) ih
def gcd0.stop2:=fun h0 h1 h2=>Lq.stop (S2:=gcd0.st zb zs lx cx ly cy xs ys) (N:=(fun n=>n=0)) (f:=5) ⟨Aa div0.ok Ac,Aq,Aj,Ap⟩ Bs ((((gcd0.rnd zb zs lx cx ly cy xs ys).cf h0).ct h1).cf h2) (fun q=>by cases q) (fun h=>K0 (ρ:=mp []) (.cons ⟨⟨_,rfl,(ruP rfl)⟩,(bptr (zL rfl))⟩ (.cons ⟨⟨_,rfl,(ruS rfl)⟩,(bslice (zL rfl))⟩ (.cons ⟨⟨_,rfl,(ruS rfl)⟩,(bslice (zL rfl))⟩ .nil))) (.cons ⟨rfl,(zL rfl),rfl⟩ (.cons ⟨rfl,(zL rfl),rfl⟩ (.cons ⟨rfl,(zL rfl),rfl⟩ .nil))) rfl)
def gcd0.stop3:=fun h0 h1=>Lq.stop (S2:=gcd0.st zb zs lx cx ly cy xs ys) (N:=(fun n=>n=0)) (f:=5) ⟨Aa div0.ok Ac,Aq,Aj,Ap⟩ Bs (((gcd0.rnd zb zs lx cx ly cy xs ys).cf h0).cf h1) (fun q=>by cases q) (fun h=>K0 (ρ:=mp []) (.cons ⟨⟨_,rfl,(ruP rfl)⟩,(bptr (zL rfl))⟩ (.cons ⟨⟨_,rfl,(ruS rfl)⟩,(bslice (zL rfl))⟩ (.cons ⟨⟨_,rfl,(ruS rfl)⟩,(bslice (zL rfl))⟩ .nil))) (.cons ⟨rfl,(zL rfl),rfl⟩ (.cons ⟨rfl,(zL rfl),rfl⟩ (.cons ⟨rfl,(zL rfl),rfl⟩ .nil))) rfl)
end
section
variable {N:Nat→Prop} {xe:X} {Se:St} (zb:Bool) (zs:ByteArray) (lx cx ly cy:Nat) (xs ys:List Int)
theorem gcd1.rnd:rd Tryz.prog ⟨[(203,div1.sp)],[],[]⟩ [] 5 (Ay Tryz.f185 0) (gcd0.st zb zs lx cx ly cy xs ys) 65 [4,5,6] [208,256,32,417,545]=
 bif decide (((ly:Nat):Int)>2) then bif Di 0 lx xs&&(Di 0 ly ys&&(ly.beq 1&&(decide (0≤cmpI lx ly (nv (seg xs 0 lx)) (nv (seg ys 0 ly)))&&decide (0<nv (seg ys 0 ly))))) then some ((X.normal,[Value.pointer (some {block:=32,off:=0}),Value.slice (some {block:=256,off:=0}) ly cy,Value.slice (some {block:=417,off:=0}) (tl (dg 1 (nv (seg xs 0 lx)%nv (seg ys 0 ly)))) 1],[some (Blk.is u32 xs 64),some (Blk.is u32 ys 64),some (Blk.cs [Value.bool zb,Value.string zs] 23),some (Blk.is u32 (dg 1 (nv (seg xs 0 lx)%nv (seg ys 0 ly))) 64),none])) else none else bif decide (((lx:Nat):Int)>2) then bif decide (((ly:Nat):Int)>0) then bif Di 0 lx xs&&(Di 0 ly ys&&(ly.beq 1&&(decide (0≤cmpI lx ly (nv (seg xs 0 lx)) (nv (seg ys 0 ly)))&&decide (0<nv (seg ys 0 ly))))) then some ((X.normal,[Value.pointer (some {block:=32,off:=0}),Value.slice (some {block:=256,off:=0}) ly cy,Value.slice (some {block:=545,off:=0}) (tl (dg 1 (nv (seg xs 0 lx)%nv (seg ys 0 ly)))) 1],[some (Blk.is u32 xs 64),some (Blk.is u32 ys 64),some (Blk.cs [Value.bool zb,Value.string zs] 23),none,some (Blk.is u32 (dg 1 (nv (seg xs 0 lx)%nv (seg ys 0 ly))) 64)])) else none else some ((X.exit 0,[Value.pointer (some {block:=32,off:=0}),Value.slice (some {block:=208,off:=0}) lx cx,Value.slice (some {block:=256,off:=0}) ly cy],[some (Blk.is u32 xs 64),some (Blk.is u32 ys 64),some (Blk.cs [Value.bool zb,Value.string zs] 23),none,none])) else some ((X.exit 0,[Value.pointer (some {block:=32,off:=0}),Value.slice (some {block:=208,off:=0}) lx cx,Value.slice (some {block:=256,off:=0}) ly cy],[some (Blk.is u32 xs 64),some (Blk.is u32 ys 64),some (Blk.cs [Value.bool zb,Value.string zs] 23),none,none])):=by kernel_rfl
def gcd1.step0:=fun h0 h1 (ih:Lq Tryz.prog (fun n=>n=0) (Ay Tryz.f185 0) (gcd0.st zb zs ly cy (tl (dg 1 (nv (seg xs 0 lx)%nv (seg ys 0 ly)))) 1 ys (dg 1 (nv (seg xs 0 lx)%nv (seg ys 0 ly)))) xe (Se))=>Lq.step (S2:=gcd0.st zb zs ly cy (tl (dg 1 (nv (seg xs 0 lx)%nv (seg ys 0 ly)))) 1 ys (dg 1 (nv (seg xs 0 lx)%nv (seg ys 0 ly)))) (f:=5) ⟨Aa div1.ok Ac,Aq,Aj,Ap⟩ Bs (((gcd1.rnd zb zs lx cx ly cy xs ys).ct h0).ct h1) (fun h=>K0 (ρ:=mp [(208,256),(256,417)]) (.cons ⟨⟨_,rfl,(ruP rfl)⟩,(bptr (zL rfl))⟩ (.cons ⟨⟨_,rfl,(ruS rfl)⟩,(bslice (zL rfl))⟩ (.cons ⟨⟨_,rfl,(ruS rfl)⟩,(bslice (zL rfl))⟩ .nil))) (.cons ⟨rfl,(zL rfl),rfl⟩ (.cons ⟨rfl,(zL rfl),rfl⟩ (.cons ⟨rfl,(zL rfl),rfl⟩ .nil))) rfl) ih
def gcd1.step1:=fun h0 h1 h2 h3 (ih:Lq Tryz.prog (fun n=>n=0) (Ay Tryz.f185 0) (gcd0.st zb zs ly cy (tl (dg 1 (nv (seg xs 0 lx)%nv (seg ys 0 ly)))) 1 ys (dg 1 (nv (seg xs 0 lx)%nv (seg ys 0 ly)))) xe (Se))=>Lq.step (S2:=gcd0.st zb zs ly cy (tl (dg 1 (nv (seg xs 0 lx)%nv (seg ys 0 ly)))) 1 ys (dg 1 (nv (seg xs 0 lx)%nv (seg ys 0 ly)))) (f:=5) ⟨Aa div1.ok Ac,Aq,Aj,Ap⟩ Bs (((((gcd1.rnd zb zs lx cx ly cy xs ys).cf h0).ct h1).ct h2).ct h3) (fun h=>K0 (ρ:=mp [(208,256),(256,545)]) (.cons ⟨⟨_,rfl,(ruP rfl)⟩,(bptr (zL rfl))⟩ (.cons ⟨⟨_,rfl,(ruS rfl)⟩,(bslice (zL rfl))⟩ (.cons ⟨⟨_,rfl,(ruS rfl)⟩,(bslice (zL rfl))⟩ .nil))) (.cons ⟨rfl,(zL rfl),rfl⟩ (.cons ⟨rfl,(zL rfl),rfl⟩ (.cons ⟨rfl,(zL rfl),rfl⟩ .nil))) rfl) ih
end
section
variable {N:Nat→Prop} {xe:X} {Se:St} (zb:Bool) (zs:ByteArray) (lx cx ly cy:Nat) (xs ys:List Int)
theorem gcd2.rnd:rd Tryz.prog ⟨[(203,div2.sp)],[],[]⟩ [] 5 (Ay Tryz.f185 0) (gcd0.st zb zs lx cx ly cy xs ys) 65 [4,5,6] [208,256,32,417,545]=
 bif decide (((ly:Nat):Int)>2) then bif Di 0 lx xs&&(Di 0 ly ys&&(Nat.ble 2 ly&&(ly.ble lx&&(lx.ble 4294967295&&(decide (0≤cmpI lx ly (nv (seg xs 0 lx)) (nv (seg ys 0 ly)))&&decide (0<ys.getD (0+(ly-1)) 0)))))) then some ((X.normal,[Value.pointer (some {block:=32,off:=0}),Value.slice (some {block:=256,off:=0}) ly cy,Value.slice (some {block:=417,off:=0}) (tl (dg (lx+1) (nv (seg xs 0 lx)%nv (seg ys 0 ly)))) (lx+1)],[some (Blk.is u32 xs 64),some (Blk.is u32 ys 64),some (Blk.cs [Value.bool zb,Value.string zs] 23),some (Blk.is u32 (dg (lx+1) (nv (seg xs 0 lx)%nv (seg ys 0 ly))) 64),none])) else none else bif decide (((lx:Nat):Int)>2) then bif decide (((ly:Nat):Int)>0) then bif Di 0 lx xs&&(Di 0 ly ys&&(Nat.ble 2 ly&&(ly.ble lx&&(lx.ble 4294967295&&(decide (0≤cmpI lx ly (nv (seg xs 0 lx)) (nv (seg ys 0 ly)))&&decide (0<ys.getD (0+(ly-1)) 0)))))) then some ((X.normal,[Value.pointer (some {block:=32,off:=0}),Value.slice (some {block:=256,off:=0}) ly cy,Value.slice (some {block:=545,off:=0}) (tl (dg (lx+1) (nv (seg xs 0 lx)%nv (seg ys 0 ly)))) (lx+1)],[some (Blk.is u32 xs 64),some (Blk.is u32 ys 64),some (Blk.cs [Value.bool zb,Value.string zs] 23),none,some (Blk.is u32 (dg (lx+1) (nv (seg xs 0 lx)%nv (seg ys 0 ly))) 64)])) else none else some ((X.exit 0,[Value.pointer (some {block:=32,off:=0}),Value.slice (some {block:=208,off:=0}) lx cx,Value.slice (some {block:=256,off:=0}) ly cy],[some (Blk.is u32 xs 64),some (Blk.is u32 ys 64),some (Blk.cs [Value.bool zb,Value.string zs] 23),none,none])) else some ((X.exit 0,[Value.pointer (some {block:=32,off:=0}),Value.slice (some {block:=208,off:=0}) lx cx,Value.slice (some {block:=256,off:=0}) ly cy],[some (Blk.is u32 xs 64),some (Blk.is u32 ys 64),some (Blk.cs [Value.bool zb,Value.string zs] 23),none,none])):=by kernel_rfl
def gcd2.step0:=fun h0 h1 (ih:Lq Tryz.prog (fun n=>n=0) (Ay Tryz.f185 0) (gcd0.st zb zs ly cy (tl (dg (lx+1) (nv (seg xs 0 lx)%nv (seg ys 0 ly)))) (lx+1) ys (dg (lx+1) (nv (seg xs 0 lx)%nv (seg ys 0 ly)))) xe (Se))=>Lq.step (S2:=gcd0.st zb zs ly cy (tl (dg (lx+1) (nv (seg xs 0 lx)%nv (seg ys 0 ly)))) (lx+1) ys (dg (lx+1) (nv (seg xs 0 lx)%nv (seg ys 0 ly)))) (f:=5) ⟨Aa div2.ok Ac,Aq,Aj,Ap⟩ Bs (((gcd2.rnd zb zs lx cx ly cy xs ys).ct h0).ct h1) (fun h=>K0 (ρ:=mp [(208,256),(256,417)]) (.cons ⟨⟨_,rfl,(ruP rfl)⟩,(bptr (zL rfl))⟩ (.cons ⟨⟨_,rfl,(ruS rfl)⟩,(bslice (zL rfl))⟩ (.cons ⟨⟨_,rfl,(ruS rfl)⟩,(bslice (zL rfl))⟩ .nil))) (.cons ⟨rfl,(zL rfl),rfl⟩ (.cons ⟨rfl,(zL rfl),rfl⟩ (.cons ⟨rfl,(zL rfl),rfl⟩ .nil))) rfl) ih
def gcd2.step1:=fun h0 h1 h2 h3 (ih:Lq Tryz.prog (fun n=>n=0) (Ay Tryz.f185 0) (gcd0.st zb zs ly cy (tl (dg (lx+1) (nv (seg xs 0 lx)%nv (seg ys 0 ly)))) (lx+1) ys (dg (lx+1) (nv (seg xs 0 lx)%nv (seg ys 0 ly)))) xe (Se))=>Lq.step (S2:=gcd0.st zb zs ly cy (tl (dg (lx+1) (nv (seg xs 0 lx)%nv (seg ys 0 ly)))) (lx+1) ys (dg (lx+1) (nv (seg xs 0 lx)%nv (seg ys 0 ly)))) (f:=5) ⟨Aa div2.ok Ac,Aq,Aj,Ap⟩ Bs (((((gcd2.rnd zb zs lx cx ly cy xs ys).cf h0).ct h1).ct h2).ct h3) (fun h=>K0 (ρ:=mp [(208,256),(256,545)]) (.cons ⟨⟨_,rfl,(ruP rfl)⟩,(bptr (zL rfl))⟩ (.cons ⟨⟨_,rfl,(ruS rfl)⟩,(bslice (zL rfl))⟩ (.cons ⟨⟨_,rfl,(ruS rfl)⟩,(bslice (zL rfl))⟩ .nil))) (.cons ⟨rfl,(zL rfl),rfl⟩ (.cons ⟨rfl,(zL rfl),rfl⟩ (.cons ⟨rfl,(zL rfl),rfl⟩ .nil))) rfl) ih
end
section
variable {N:Nat→Prop} {xe:X} {Se:St} (zb:Bool) (zs:ByteArray) (n m:Int) (nx:Nat)
abbrev gce.st:St:=⟨gbuild [(4,.pointer (some ⟨32,0,none⟩)),(9,.int .u64 n),(10,.int .u64 m)] 0 65,[(32,.cs [Value.bool zb,Value.string zs] 23)],nx⟩
abbrev gce.lk:=RX.lk [4,9,10] [32]
theorem gce.rnd:rd Tryz.prog ⟨[],[],[]⟩ [] 3 (Ay Tryz.f185 2) (gce.st zb zs n m nx) 65 [4,9,10] [32]=
 bif m !=0 then bif m !=0 then gce.lk .normal (gce.st zb zs m (n.tmod m) nx) else none else gce.lk (.exit 2) (gce.st zb zs n m nx):=by kernel_rfl
def gce.step0:=fun h0 h1 (ih:Lq Tryz.prog N (Ay Tryz.f185 2) _ xe Se)=>Lq.toK (f:=3) ⟨Ac,Aq,Aj,Ap⟩ Bs (((gce.rnd zb zs n m nx).ct h0).ct h1) rfl rfl ih
def gce.stop1:=fun h0=>Lq.endK (N:=N) (f:=3) ⟨Ac,Aq,Aj,Ap⟩ Bs ((gce.rnd zb zs n m nx).cf h0) (fun q=>by cases q) rfl rfl
end
theorem PF (a b:Int):Int.gcd a (b%a)=Int.gcd a b:=by
 have h:=Int.emod_add_mul_ediv b a
 have h1:=Int.gcd_add_mul_right_right a (b%a) (b/a)
 rw [Int.mul_comm (b/a),h] at h1
 exact h1.symm
theorem gI_ex:∃f:Int→Int→Int,∀a b,f a b=((Int.gcd a b:Nat):Int):=⟨_,fun _ _=>rfl⟩
noncomputable def gI:Int→Int→Int:=Classical.choose gI_ex
theorem K3 (a b:Int):gI a b=((Int.gcd a b:Nat):Int):=Classical.choose_spec gI_ex a b
structure GQ where
 xs:List Int
 cx:Nat
 ys:List Int
 cy:Nat
def GQ.more (q:GQ):Bool:=decide (2<tl q.ys)||(decide (2<tl q.xs)&&decide (0<tl q.ys))
def GQ.next (q:GQ):GQ:=bif decide (nv q.xs<nv q.ys) then ⟨q.ys,q.cy,q.xs,q.cx⟩ else bif Nat.beq (tl q.ys) 1 then ⟨q.ys,q.cy,dg 1 (nv q.xs%nv q.ys),1⟩ else ⟨q.ys,q.cy,dg (tl q.xs+1) (nv q.xs%nv q.ys),tl q.xs+1⟩
def GQ.go:Nat→GQ→GQ
 |0,q=>q
 |k+1,q=>bif q.more then GQ.go k q.next else q
theorem gq_ex:∃f:GQ→GQ,∀q,f q=GQ.go ((nv q.ys).toNat+1) q:=⟨_,fun _=>rfl⟩
noncomputable def gq:GQ→GQ:=Classical.choose gq_ex
theorem gq_eq (q:GQ):gq q=GQ.go ((nv q.ys).toNat+1) q:=Classical.choose_spec gq_ex q
structure GQ.Ok (q:GQ):Prop where
 x:dig q.xs
 y:dig q.ys
 lx:tl q.xs≤2147483648
 ly:tl q.ys≤2147483648
theorem P7 {xs:List Int} (h:dig xs):nv (seg xs 0 (tl xs))=nv xs:=Lu h 0
theorem J5 {xs:List Int} (h:dig xs) (h':tl xs≤2147483648):Di 0 (tl xs) xs=true:=Dy.2 ⟨by have:=Fz xs; omega,by omega,h⟩
theorem cmp_tl {xs ys:List Int} (hx:dig xs) (hy:dig ys):cmpI (tl xs) (tl ys) (nv xs) (nv ys)≥0↔nv ys≤nv xs:=by
 have:=II (n:=xs.length) (m:=ys.length) (Dx hx) (FF hx) (Dx hy) (FF hy)
 rwa [Ho hx,Ho hy] at this
theorem Mt {xs ys:List Int} (hx:dig xs) (hy:dig ys) (h:nv ys≤nv xs):tl ys≤tl xs:=by
 have:=Oa (n:=xs.length) (m:=ys.length) (Dx hx) (FF hx) (Dx hy) (FF hy) h
 rwa [Ho hx,Ho hy] at this
theorem top_of {ys:List Int} (hy:dig ys) (h:0<nv ys):1≤tl ys∧0<ys.getD (0+(tl ys-1)) 0:=by
 have:=Nl h (FF hy)
 rwa [Ho hy] at this
theorem L7 {xs:List Int} (hx:dig xs):nv xs<pw (tl xs):=by
 have:=Gd (Dx hx) (FF hx)
 rwa [Ho hx] at this
theorem Nu {ys:List Int} (hy:dig ys):0<tl ys↔0<nv ys:=by
 have h1:=KE hy
 have h2:=Dx hy
 omega
theorem GQ.Ok.next {q:GQ} (h:q.Ok) (hm:q.more=true):q.next.Ok∧nv q.next.ys<nv q.ys∧0≤nv q.next.ys∧Int.gcd (nv q.next.xs) (nv q.next.ys)=Int.gcd (nv q.xs) (nv q.ys):=by
 obtain ⟨hx,hy,lx,ly⟩:=h
 have hp:0<nv q.ys:=(Nu hy).1 (by simp only [GQ.more,Bool.or_eq_true,zB,zD] at hm; omega)
 have a0:=Dx hx
 have m0:=Int.emod_nonneg (nv q.xs) (show nv q.ys≠0 by omega)
 have m1:=Int.emod_lt_of_pos (nv q.xs) hp
 have hg:Int.gcd (nv q.ys) (nv q.xs%nv q.ys)=Int.gcd (nv q.xs) (nv q.ys):=by
  rw [Int.gcd_comm (nv q.xs)]; exact PF _ _
 unfold GQ.next
 cases hc:decide (nv q.xs<nv q.ys) with
 | true=>
  simp only [cond_true]
  exact ⟨⟨hy,hx,ly,lx⟩,of_decide_eq_true hc,a0,Int.gcd_comm _ _⟩
 | false=>
  have hc:=of_decide_eq_false hc
  have hlx:=L7 hx
  simp only [cond_false]
  cases hb:Nat.beq (tl q.ys) 1 with
  | true=>
   have hb:=zE hb
   have hly:=L7 hy
   rw [hb] at hly
   have ht:=Fz (dg 1 (nv q.xs%nv q.ys))
   rw [Cw] at ht
   simp only [cond_true]
   rw [G0 1 _ m0 (by omega)]
   exact ⟨⟨hy,F4 _ _,ly,by show tl (dg 1 _)≤_; omega⟩,m1,m0,hg⟩
  | false=>
   have h1:pw (tl q.xs)≤pw (tl q.xs+1):=Fh (by omega)
   simp only [cond_false]
   have ht:tl (dg (tl q.xs+1) (nv q.xs%nv q.ys))≤tl q.ys:=by
    have:=Mt (xs:=q.ys) (ys:=dg (tl q.xs+1) (nv q.xs%nv q.ys)) hy (F4 _ _) (by rw [G0 _ _ m0 (by omega)]; omega)
    exact this
   rw [G0 _ _ m0 (by omega)]
   exact ⟨⟨hy,F4 _ _,ly,Nat.le_trans ht ly⟩,m1,m0,hg⟩
theorem GQ.go_ok:∀(k:Nat) (q:GQ),q.Ok→nv q.ys<k→(GQ.go k q).Ok∧(GQ.go k q).more=false∧Int.gcd (nv (GQ.go k q).xs) (nv (GQ.go k q).ys)=Int.gcd (nv q.xs) (nv q.ys)
 |0,q,h,hk=>by have:=Dx h.y; omega
 | k +1,q,h,hk=>by
  unfold GQ.go
  cases hm:q.more with
  |false=>exact ⟨h,hm,rfl⟩
  | true=>
   obtain ⟨h1,h2,_,h3⟩:=h.next hm
   obtain ⟨r1,r2,r3⟩:=GQ.go_ok k q.next h1 (by omega)
   simp only [cond_true]
   exact ⟨r1,r2,r3.trans h3⟩
abbrev GQ.st (q:GQ) (zb:Bool) (zs:ByteArray):St:=gcd0.st zb zs (tl q.xs) q.cx (tl q.ys) q.cy q.xs q.ys
def gcd0.ok (lx ly:Nat) (xs ys:List Int):Bool:=digB xs&&(digB ys&&(Nat.beq lx (tl xs)&&(Nat.beq ly (tl ys)&&(Nat.ble lx 2147483648&&Nat.ble ly 2147483648))))
noncomputable def gcd0.lt (zb:Bool) (zs:ByteArray) (lx cx ly cy:Nat) (xs ys:List Int):LT:= .got (gcd0.ok lx ly xs ys) (.exit 0) (GQ.st (gq ⟨xs,cx,ys,cy⟩) zb zs)
theorem gcd0.go (zb:Bool) (zs:ByteArray):∀(k:Nat) (q:GQ),q.Ok→nv q.ys<k→Lq Tryz.prog (fun n=>n=0) (Ay Tryz.f185 0) (q.st zb zs) (.exit 0) ((GQ.go k q).st zb zs)
 |0,q,h,hk=>by have:=Dx h.y; omega
 | k + 1,q,h,hk=>by
  unfold GQ.go
  cases hm:q.more with
  | false=>
   have hm':¬2<tl q.ys∧(2<tl q.xs→¬0<tl q.ys):=by simpa [GQ.more] using hm
   by_cases h1:2<tl q.xs
   ·exact gcd0.stop2 _ _ _ _ _ _ _ _ (dfalse (by omega)) (dtrue (by omega)) (dfalse (by have:=hm'.2 h1; omega))
   ·exact gcd0.stop3 _ _ _ _ _ _ _ _ (dfalse (by omega)) (dfalse (by omega))
  | true=>
   obtain ⟨n1,n2,n3,_⟩:=h.next hm
   have ih:=gcd0.go zb zs k q.next n1 (by omega)
   obtain ⟨hx,hy,lx,ly⟩:=h
   have hm':2<tl q.ys∨2<tl q.xs∧0<tl q.ys:=by simpa [GQ.more] using hm
   have hp:0<nv q.ys:=(Nu hy).1 (by omega)
   have ex:=P7 hx
   have ey:=P7 hy
   have ox:=J5 hx lx
   have oy:=J5 hy ly
   have hcm:=cmp_tl hx hy
   simp only [cond_true]
   unfold GQ.next at ih ⊢
   cases hc:decide (nv q.xs<nv q.ys) with
   | true=>
    have hc':=of_decide_eq_true hc
    rw [hc] at ih
    simp only [cond_true] at ih ⊢
    have key:(Di 0 (tl q.xs) q.xs&&Di 0 (tl q.ys) q.ys&&decide (cmpI (tl q.xs) (tl q.ys) (nv (seg q.xs 0 (tl q.xs))) (nv (seg q.ys 0 (tl q.ys)))<0))=true:=by
     rw [ex,ey,ox,oy,Bool.and_self,Bool.true_and]; exact dtrue (by omega)
    by_cases h1:2<tl q.ys
    ·exact gcd0.step0 _ _ _ _ _ _ _ _ (dtrue (by omega)) key ih
    ·exact gcd0.step1 _ _ _ _ _ _ _ _ (dfalse (by omega)) (dtrue (by omega)) (dtrue (by omega)) key ih
   | false=>
    have hc':=of_decide_eq_false hc
    rw [hc] at ih
    simp only [cond_false] at ih ⊢
    cases hb:Nat.beq (tl q.ys) 1 with
    | true=>
     rw [hb] at ih
     simp only [cond_true] at ih ⊢
     have key:(Di 0 (tl q.xs) q.xs&&(Di 0 (tl q.ys) q.ys&&((tl q.ys).beq 1&&(decide (0≤cmpI (tl q.xs) (tl q.ys) (nv (seg q.xs 0 (tl q.xs))) (nv (seg q.ys 0 (tl q.ys))))&&decide (0<nv (seg q.ys 0 (tl q.ys)))))))=true:=by
      rw [ex,ey,ox,oy,Bool.true_and,Bool.true_and,hb,Bool.true_and]; exact dtrue2 (by omega) hp
     by_cases h1:2<tl q.ys
     ·exact gcd1.step0 _ _ _ _ _ _ _ _ (dtrue (by omega)) key (by rw [ex,ey]; exact ih)
     ·exact gcd1.step1 _ _ _ _ _ _ _ _ (dfalse (by omega)) (dtrue (by omega)) (dtrue (by omega)) key (by rw [ex,ey]; exact ih)
    | false=>
     rw [hb] at ih
     simp only [cond_false] at ih ⊢
     have hb':tl q.ys≠1:=fun e=>by rw [e] at hb; cases hb
     obtain ⟨t1,t2⟩:=top_of hy hp
     have hle:=Mt hx hy (show nv q.ys≤nv q.xs by omega)
     have key:(Di 0 (tl q.xs) q.xs&&(Di 0 (tl q.ys) q.ys&&(Nat.ble 2 (tl q.ys)&&((tl q.ys).ble (tl q.xs)&&((tl q.xs).ble 4294967295&&(decide (0≤cmpI (tl q.xs) (tl q.ys) (nv (seg q.xs 0 (tl q.xs))) (nv (seg q.ys 0 (tl q.ys))))&&decide (0<q.ys.getD (0+(tl q.ys-1)) 0)))))))=true:=by
      rw [ex,ey,ox,oy,Bool.true_and,Bool.true_and,Nat.ble_eq_true_of_le (show 2≤tl q.ys by omega),Nat.ble_eq_true_of_le hle,Nat.ble_eq_true_of_le (show tl q.xs≤4294967295 by omega),Bool.true_and,Bool.true_and,Bool.true_and]
      exact dtrue2 (by omega) t2
     by_cases h1:2<tl q.ys
     ·exact gcd2.step0 _ _ _ _ _ _ _ _ (dtrue (by omega)) key (by rw [ex,ey]; exact ih)
     ·exact gcd2.step1 _ _ _ _ _ _ _ _ (dfalse (by omega)) (dtrue (by omega)) (dtrue (by omega)) key (by rw [ex,ey]; exact ih)
theorem gcd0.lp (zb:Bool) (zs:ByteArray) (lx cx ly cy:Nat) (xs ys:List Int) {x:X} {S':St} (h:(gcd0.lt zb zs lx cx ly cy xs ys).at=some (x,S')):Lq Tryz.prog (fun n=>n=0) (Ay Tryz.f185 0) (gcd0.st zb zs lx cx ly cy xs ys) x S':=by
 obtain ⟨h1,rfl,rfl⟩:=Ez h
 simp only [gcd0.ok,zB,Nat.ble_eq,Fw] at h1
 obtain ⟨hx,hy,e1,e2,h5,h6⟩:=h1
 obtain rfl:=zE e1
 obtain rfl:=zE e2
 rw [gq_eq]
 have hn:=Dx hy
 exact gcd0.go zb zs ((nv ys).toNat+1) ⟨xs,cx,ys,cy⟩ ⟨hx,hy,h5,h6⟩ (by show nv ys<_; omega)
noncomputable def gcd0.t:LSpec:=fun S=>match RX.nth S.tmps 4,RX.nth S.tmps 5,RX.nth S.tmps 6,RX.look S.heap 208,RX.look S.heap 256,RX.look S.heap 32,S.nxt with
 | .pointer (some ⟨32,0,none⟩),.slice (some ⟨208,0,none⟩) lx cx,.slice (some ⟨256,0,none⟩) ly cy,some (.is .u32 xs 64),some (.is .u32 ys 64),some (.cs [Value.bool zb,Value.string zs] 23),304=>bif Nat.beq S.tmps.length 65 then some (gcd0.lt zb zs lx cx ly cy xs ys) else none
 |_,_,_,_,_,_,_=>none
theorem gcd0.lok:LOKn Tryz.prog (fun n=>n=0) (Ay Tryz.f185 0) (gcd0.t):=by
 refine FS fun S lt x S' ht hat=> ?_
 unfold gcd0.t at ht
 split at ht
 ·rename_i lx cx ly cy xs ys zb zs h4 h5 h6 g208 g256 g32 hnx
  cases hb:Nat.beq S.tmps.length 65 with
  |false=>rw [hb] at ht; cases ht
  | true=>
   rw [hb] at ht
   injection ht with ht
   subst ht
   have hb:=zE hb
   obtain ⟨T,H,_⟩:=S
   subst hnx
   exact .enter (fun h=>FW hb (.cons ⟨h4,bnth h h4⟩ (.cons ⟨h5,bnth h h5⟩ (.cons ⟨h6,bnth h h6⟩ .nil))) (.cons ⟨g208,bname h g208,rfl⟩ (.cons ⟨g256,bname h g256,rfl⟩ (.cons ⟨g32,bname h g32,rfl⟩ .nil)))) (gcd0.lp _ _ _ _ _ _ _ _ hat)
 ·cases ht
def gce.ok (n m:Int):Bool:=decide (0≤n)&&decide (0≤m)
noncomputable def gce.lt (zb:Bool) (zs:ByteArray) (n m:Int) (nx:Nat):LT:= .got (gce.ok n m) (.exit 2) (gce.st zb zs (gI n m) 0 nx)
theorem gce.go {N:Nat→Prop} (zb:Bool) (zs:ByteArray) (nx:Nat):∀(k:Nat) (n m:Int),0≤n→0≤m→m<k→Lq Tryz.prog N (Ay Tryz.f185 2) (gce.st zb zs n m nx) (.exit 2) (gce.st zb zs (gI n m) 0 nx)
 |0,n,m,h,h',hk=>by omega
 | k +1,n,m,h,h',hk=>by
  by_cases h0:m=0
  ·subst h0
   have:=gce.stop1 (N:=N) zb zs n 0 nx rfl
   rw [K3,Int.gcd_zero_right,Int.natAbs_of_nonneg h]
   exact this
  ·have hr0:=Int.emod_nonneg n h0
   have hr1:=Int.emod_lt_of_pos n (show 0<m by omega)
   refine gce.step0 zb zs n m nx (E8 h0) (E8 h0) ?_
   have ih:=gce.go (N:=N) zb zs nx k m (n%m) h' hr0 (by omega)
   rw [Int.tmod_eq_emod_of_nonneg h]
   have hg:Int.gcd m (n%m)=Int.gcd n m:=by rw [Int.gcd_comm n]; exact PF _ _
   rw [K3,hg,←K3] at ih
   exact ih
theorem gce.lp {N:Nat→Prop} (zb:Bool) (zs:ByteArray) (n m:Int) (nx:Nat) {x:X} {S':St} (h:(gce.lt zb zs n m nx).at=some (x,S')):Lq Tryz.prog N (Ay Tryz.f185 2) (gce.st zb zs n m nx) x S':=by
 obtain ⟨h1,rfl,rfl⟩:=Ez h
 simp only [gce.ok,zB,zD] at h1
 exact gce.go zb zs nx (m.toNat+1) n m h1.1 h1.2 (by omega)
noncomputable def gce.t:LSpec:=fun S=>match RX.nth S.tmps 4,RX.nth S.tmps 9,RX.nth S.tmps 10,RX.look S.heap 32 with
 | .pointer (some ⟨32,0,none⟩),.int .u64 n,.int .u64 m,some (.cs [Value.bool zb,Value.string zs] 23)=>bif Nat.beq S.tmps.length 65 then some (gce.lt zb zs n m S.nxt) else none
 |_,_,_,_=>none
theorem gce.lok {N:Nat→Prop} :LOKn Tryz.prog N (Ay Tryz.f185 2) (gce.t):=by
 refine FS fun S lt x S' ht hat=> ?_
 unfold gce.t at ht
 split at ht
 ·rename_i n m zb zs h4 h9 h10 g32
  cases hb:Nat.beq S.tmps.length 65 with
  |false=>rw [hb] at ht; cases ht
  | true=>
   rw [hb] at ht
   injection ht with ht
   subst ht
   have hb:=zE hb
   exact .enter (fun h=>FW hb (.cons ⟨h4,bnth h h4⟩ (.cons ⟨h9,bnth h h9⟩ (.cons ⟨h10,bnth h h10⟩ .nil))) (.cons ⟨g32,bname h g32,rfl⟩ .nil)) (gce.lp _ _ _ _ _ hat)
 ·cases ht
theorem rGcd.run (na:Bool) (sa:ByteArray) (nb:Bool) (sb:ByteArray):xfn Tryz.prog ⟨[(157,Valid.sp),(188,of.sp),(187,with.sp),(204,single.sp),(186,word.sp)],[],[]⟩ [(0,gcd0.t),(2,gce.t)] 10 Tryz.f185 [.agg ⟨[.bool na,.string sa]⟩,.agg ⟨[.bool nb,.string sb]⟩] []=
 let c0:=gq {xs:=dg (nd sa) (bv sa.data.toList),cx:=nd sa,ys:=dg (nd sb) (bv sb.data.toList),cy:=nd sb}
 let c2:=seg c0.xs 0 (tl c0.xs)
 let c1:=dg 2 (gI (nv c2) (nv (seg c0.ys 0 (tl c0.ys))))
 bif !vld na sa then some ((Value.agg ⟨[Value.bool false,Value.string (⟨#[]⟩:ByteArray)]⟩,[])) else bif !vld nb sb then some ((Value.agg ⟨[Value.bool false,Value.string (⟨#[]⟩:ByteArray)]⟩,[])) else bif sa.size.ble 8589934592 then bif sb.size.ble 8589934592 then bif gcd0.ok (tl (dg (nd sa) (bv sa.data.toList))) (tl (dg (nd sb) (bv sb.data.toList))) (dg (nd sa) (bv sa.data.toList)) (dg (nd sb) (bv sb.data.toList)) then bif ((tl c0.ys:Nat):Int)==0 then bif Di 0 (tl c0.xs) c0.xs then some ((Value.agg ⟨[Value.bool (false&& !nv c2==0),Value.string (str (enc (nv c2)))]⟩,[])) else none else bif Di 0 (tl c0.xs) c0.xs&&(tl c0.xs).ble 2 then bif Di 0 (tl c0.ys) c0.ys&&(tl c0.ys).ble 2 then bif gce.ok (nv c2) (nv (seg c0.ys 0 (tl c0.ys))) then bif decide (0≤gI (nv c2) (nv (seg c0.ys 0 (tl c0.ys))))&&decide (gI (nv c2) (nv (seg c0.ys 0 (tl c0.ys)))<18446744073709551616) then bif Di 0 (tl c1) c1 then some ((Value.agg ⟨[Value.bool (false&& !nv (seg c1 0 (tl c1))==0),Value.string (str (enc (nv (seg c1 0 (tl c1)))))]⟩,[])) else none else none else none else none else none else none else none else none:=by kernel_rfl
def rGcd.run0:=fun na sa nb sb h0=>((rGcd.run na sa nb sb).ct h0)
def rGcd.run1:=fun na sa nb sb h0 h1=>(((rGcd.run na sa nb sb).cf h0).ct h1)
def rGcd.run2:=fun na sa nb sb h0 h1 h2 h3 h4 h5 h6=>((((((((rGcd.run na sa nb sb).cf h0).cf h1).ct h2).ct h3).ct h4).ct h5).ct h6)
def rGcd.run3:=fun na sa nb sb h0 h1 h2 h3 h4 h5 h6 h7 h8 h9 h10=>((((((((((((rGcd.run na sa nb sb).cf h0).cf h1).ct h2).ct h3).ct h4).cf h5).ct h6).ct h7).ct h8).ct h9).ct h10)
noncomputable def Gcd.sp:HSpec
 |[.agg ⟨[.bool na,.string sa]⟩,.agg ⟨[.bool nb,.string sb]⟩],[]=>some (szM sa&&szM sb,iI (bif vld na sa&&vld nb sb then gI (vl na sa) (vl nb sb) else 0),[])
 |_,_=>none
theorem gI_vl (na nb:Bool) (sa sb:ByteArray):gI (vl na sa) (vl nb sb)=((Int.gcd (bv sa.data.toList) (bv sb.data.toList):Nat):Int):=by
 rw [K3]
 unfold vl
 cases na<;>cases nb<;>simp [Int.gcd_neg,Int.neg_gcd]
theorem Gcd.ok:SOK Tryz.prog 185 Gcd.sp:=by
 refine Oj (N:=fun n=>n=0) (E:=⟨[(157,Valid.sp),(188,of.sp),(187,with.sp),(204,single.sp),(186,word.sp)],[],[]⟩) (L:=[(0,gcd0.t),(2,gce.t)]) ⟨Aa Valid.ok (Aa of.ok (Aa with.ok (Aa Lc.ok (Aa word.ok Ac)))),Aq,Aj,Ap⟩ 10 Tryz.func185 (by decide) rfl (GW rfl (Er rfl gcd0.lok (Er rfl gce.lok Bs))) fun vs bl v bl' h=> ?_
 unfold Gcd.sp at h
 split at h
 ·rename_i na sa nb sb
  simp only [zS,zP,zB] at h
  obtain ⟨⟨h1,h2⟩,rfl,rfl⟩:=h
  refine ⟨⟨?_,by simp [okV],clo_spec 8 _ rfl,Bg rfl⟩,rfl⟩
  cases va:vld na sa with
  |false=>exact (rGcd.run0 na sa nb sb (Ee va)).trans (by simp only [Bool.false_and,cond_false]; rw [F9])
  |true=>
  cases vb:vld nb sb with
  |false=>exact (rGcd.run1 na sa nb sb (Dh va) (Ee vb)).trans (by simp only [Bool.and_false,cond_false]; rw [F9])
  |true=>
  have hsa:=zL h1
  have hsb:=zL h2
  have na_:nd sa≤1073741825:=by unfold nd; omega
  have nb_:nd sb≤1073741825:=by unfold nd; omega
  have a0:=EV sa.data.toList
  have b0:=EV sb.data.toList
  have a1:=FM sa
  have b1:=FM sb
  simp only [Bool.and_self,cond_true]
  rw [gI_vl]
  have n2:=rGcd.run2 na sa nb sb (Dh va) (Dh vb) (H6 h1) (H6 h2)
  have n3:=rGcd.run3 na sa nb sb (Dh va) (Dh vb) (H6 h1) (H6 h2)
  generalize bv sa.data.toList=A at*
  generalize bv sb.data.toList=B at*
  have ta:=Fz (dg (nd sa) A)
  have tb:=Fz (dg (nd sb) B)
  rw [Cw] at ta tb
  have hk:gcd0.ok (tl (dg (nd sa) A)) (tl (dg (nd sb) B)) (dg (nd sa) A) (dg (nd sb) B)=true:=by
   simp only [gcd0.ok,zB,Nat.ble_eq,Nat.beq_eq,Fw]
   exact ⟨F4 _ _,F4 _ _,trivial,trivial,by omega,by omega⟩
  have hq:(⟨dg (nd sa) A,nd sa,dg (nd sb) B,nd sb⟩:GQ).Ok:=⟨F4 _ _,F4 _ _,by show tl (dg (nd sa) A)≤_; omega,by show tl (dg (nd sb) B)≤_; omega⟩
  have hr:=GQ.go_ok ((nv (dg (nd sb) B)).toNat+1) ⟨dg (nd sa) A,nd sa,dg (nd sb) B,nd sb⟩ hq (by have:=Dx (F4 (nd sb) B); show nv (dg (nd sb) B)<_; omega)
  rw [←gq_eq ⟨dg (nd sa) A,nd sa,dg (nd sb) B,nd sb⟩] at hr
  replace n2:=n2 hk
  replace n3:=n3 hk
  have eg:Int.gcd (nv (gq ⟨dg (nd sa) A,nd sa,dg (nd sb) B,nd sb⟩).xs) (nv (gq ⟨dg (nd sa) A,nd sa,dg (nd sb) B,nd sb⟩).ys)=Int.gcd A B:=by
   rw [hr.2.2]; show Int.gcd (nv (dg (nd sa) A)) (nv (dg (nd sb) B))=_
   rw [G0 _ _ a0 a1,G0 _ _ b0 b1]
  obtain ⟨⟨rx,ry,rlx,rly⟩,hm,_⟩:=hr
  generalize gq ⟨dg (nd sa) A,nd sa,dg (nd sb) B,nd sb⟩=r at*
  rw [P7 rx] at n2 n3
  rw [P7 ry] at n3
  have ox:=J5 rx rlx
  have oy:=J5 ry rly
  have x0:=Dx rx
  have y0:=Dx ry
  have hm':¬2<tl r.ys∧(2<tl r.xs→¬0<tl r.ys):=by simpa [GQ.more] using hm
  by_cases hz:tl r.ys=0
  ·have hy:nv r.ys=0:=(KE ry).1 hz
   refine (n2 (by rw [hz]; rfl) ox).trans ?_
   show some (iv false (nv r.xs),_)=_
   rw [GS false x0,cond_false,←eg,hy,Int.gcd_zero_right,Int.natAbs_of_nonneg x0]
  ·have hyp:0<nv r.ys:=(Nu ry).1 (by omega)
   have hlx:tl r.xs≤2:=by have:=hm'.2; omega
   have hly:tl r.ys≤2:=by omega
   have hg0:0≤gI (nv r.xs) (nv r.ys):=by rw [K3]; omega
   have hg1:gI (nv r.xs) (nv r.ys)≤nv r.ys:=by rw [K3]; exact Int.le_of_dvd hyp (Int.gcd_dvd_right _ _)
   have hlt:=L7 ry
   have hpw:pw (tl r.ys)≤pw 2:=Fh hly
   have e2:pw 2=18446744073709551616:=by decide
   have hbz:(((tl r.ys:Nat):Int)==0)=false:=by rw [beq_eq_false_iff_ne]; omega
   have key:=n3 hbz (by rw [ox,Bool.true_and]; exact Nat.ble_eq_true_of_le hlx) (by rw [oy,Bool.true_and]; exact Nat.ble_eq_true_of_le hly) (dtrue2 x0 y0) (dtrue2 hg0 (by omega)) (okc _ (by decide))
   refine key.trans ?_
   show some (iv false (nv (seg (dg 2 (gI (nv r.xs) (nv r.ys))) 0 (tl (dg 2 (gI (nv r.xs) (nv r.ys)))))),_)=_
   rw [nvc hg0 (by omega),GS false hg0,cond_false,K3,eg]
 ·cases h
theorem rCmp.run (na:Bool) (sa:ByteArray) (nb:Bool) (sb:ByteArray):xfn Tryz.prog ⟨[(169,Sub.sp),(158,Sign.sp)],[],[]⟩ [] 10 Tryz.f196 [.agg ⟨[.bool na,.string sa]⟩,.agg ⟨[.bool nb,.string sb]⟩] []=
 bif szOk sa&&szOk sb then some ((Value.int i64 (sgn (bif vld (decide ((bif vld na sa&&vld nb sb then vl na sa-vl nb sb else 0)<0)) (str (enc (((bif vld na sa&&vld nb sb then vl na sa-vl nb sb else 0).natAbs:Nat):Int))) then vl (decide ((bif vld na sa&&vld nb sb then vl na sa-vl nb sb else 0)<0)) (str (enc (((bif vld na sa&&vld nb sb then vl na sa-vl nb sb else 0).natAbs:Nat):Int))) else 0)),[])) else none:=by kernel_rfl
def rCmp.run0:=fun na sa nb sb h0=>((rCmp.run na sa nb sb).ct h0)
def Cmp.sp:HSpec
 |[.agg ⟨[.bool na,.string sa]⟩,.agg ⟨[.bool nb,.string sb]⟩],[]=>some (szOk sa&&szOk sb,.int .i64 (sgn (bif vld na sa&&vld nb sb then vl na sa-vl nb sb else 0)),[])
 |_,_=>none
theorem Cmp.ok:SOK Tryz.prog 196 Cmp.sp:=by
 refine Dl (E:=⟨[(169,Sub.sp),(158,Sign.sp)],[],[]⟩) (L:=[]) ⟨Aa Sub.ok (Aa Sign.ok Ac),Aq,Aj,Ap⟩ 10 Tryz.func196 (by decide) rfl Bf fun vs bl v bl' h=> ?_
 unfold Cmp.sp at h
 split at h
 ·rename_i na sa nb sb
  simp only [zS,zP] at h
  obtain ⟨h1,rfl,rfl⟩:=h
  refine ⟨(rCmp.run0 na sa nb sb h1).trans ?_,by simp [okV],clo_spec 8 _ rfl,Bg rfl⟩
  rw [HY,cond_true,Js]
 ·cases h
def GcdC.sp:HSpec
 |[.agg ⟨[.bool na,.string sa]⟩,.agg ⟨[.bool nb,.string sb]⟩],[]=>some (szM sa&&szM sb,iI (bif vld na sa&&vld nb sb then ((Int.gcd (vl na sa) (vl nb sb):Nat):Int) else 0),[])
 |_,_=>none
theorem GcdC.ok:SOK Tryz.prog 185 GcdC.sp:=by
 refine ⟨Gcd.ok.enter,fun vs bl v bl' hs=>Gcd.ok.run vs bl v bl' ?_⟩
 unfold GcdC.sp at hs
 split at hs
 ·rw [←hs]
  show some _=some _
  rw [K3]
 ·cases hs
def dI (z:Int):Bool×ByteArray:=(decide (z<0),str (enc (z.natAbs:Int)))
def By (n:Bool) (s:ByteArray) (m:Bool) (t:ByteArray):Bool×ByteArray:=dI (bif vld n s&&vld m t then vl n s*vl m t else 0)
def By.pre (n:Bool) (s:ByteArray) (m:Bool) (t:ByteArray):Bool:=szM s&&szM t
theorem By.ok:SOK Tryz.prog 163 (By.sp By By.pre):=by
 refine ⟨Mul.ok.enter,fun vs bl v bl' hs=>Mul.ok.run vs bl v bl' ?_⟩
 unfold By.sp at hs
 split at hs
 ·rw [←hs]; rfl
 ·cases hs
def Dt (n:Bool) (s:ByteArray) (m:Bool) (t:ByteArray):Bool×ByteArray:=dI (bif vld n s&&vld m t then vl n s+vl m t else 0)
def Dt.pre (n:Bool) (s:ByteArray) (m:Bool) (t:ByteArray):Bool:=szOk s&&szOk t
theorem Dt.ok:SOK Tryz.prog 162 (Dt.sp Dt Dt.pre):=by
 refine ⟨Add.ok.enter,fun vs bl v bl' hs=>Add.ok.run vs bl v bl' ?_⟩
 unfold Dt.sp at hs
 split at hs
 ·rw [←hs]; rfl
 ·cases hs
def EN (n:Bool) (s:ByteArray) (m:Bool) (t:ByteArray):Bool×ByteArray:=dI (bif vld n s&&vld m t then vl n s-vl m t else 0)
def EN.pre (n:Bool) (s:ByteArray) (m:Bool) (t:ByteArray):Bool:=szOk s&&szOk t
theorem EN.ok:SOK Tryz.prog 169 (EN.sp EN EN.pre):=by
 refine ⟨Sub.ok.enter,fun vs bl v bl' hs=>Sub.ok.run vs bl v bl' ?_⟩
 unfold EN.sp at hs
 split at hs
 ·rw [←hs]; rfl
 ·cases hs
def EO (n:Bool) (s:ByteArray) (m:Bool) (t:ByteArray):Bool×ByteArray:=dI (bif vld n s&&vld m t then ((Int.gcd (vl n s) (vl m t):Nat):Int) else 0)
def EO.pre (n:Bool) (s:ByteArray) (m:Bool) (t:ByteArray):Bool:=szM s&&szM t
theorem EO.ok:SOK Tryz.prog 185 (EO.sp EO EO.pre):=by
 refine ⟨GcdC.ok.enter,fun vs bl v bl' hs=>GcdC.ok.run vs bl v bl' ?_⟩
 unfold EO.sp at hs
 split at hs
 ·rw [←hs]; rfl
 ·cases hs
def EP (n:Bool) (s:ByteArray) (m:Bool) (t:ByteArray):Int:=sgn (bif vld n s&&vld m t then vl n s-vl m t else 0)
def EP.pre (n:Bool) (s:ByteArray) (m:Bool) (t:ByteArray):Bool:=szOk s&&szOk t
theorem EP.ok:SOK Tryz.prog 196 (EP.sp EP EP.pre):=by
 refine ⟨Cmp.ok.enter,fun vs bl v bl' hs=>Cmp.ok.run vs bl v bl' ?_⟩
 unfold EP.sp at hs
 split at hs
 ·rw [←hs]; rfl
 ·cases hs
def Ct (n:Int):Bool×ByteArray:=dI n
def Ct.pre (n:Int):Bool:=decide (-9223372036854775808≤n)&&decide (n≤9223372036854775807)
theorem Ct.ok:SOK Tryz.prog 160 (Ct.sp Ct Ct.pre):=by
 refine ⟨Of.ok.enter,fun vs bl v bl' hs=>Of.ok.run vs bl v bl' ?_⟩
 unfold Ct.sp at hs
 split at hs
 ·rw [←hs]; rfl
 ·cases hs
def EZ (n:Bool) (s:ByteArray):Bool:=vld n s
theorem EZ.ok:SOK Tryz.prog 157 (EZ.sp EZ):=by
 refine ⟨Valid.ok.enter,fun vs bl v bl' hs=>Valid.ok.run vs bl v bl' ?_⟩
 unfold EZ.sp at hs
 split at hs
 ·rw [←hs]; rfl
 ·cases hs
def E4 (n:Bool) (s:ByteArray):Int:=sgn (bif vld n s then vl n s else 0)
theorem E4.ok:SOK Tryz.prog 158 (E4.sp E4):=by
 refine ⟨Sign.ok.enter,fun vs bl v bl' hs=>Sign.ok.run vs bl v bl' ?_⟩
 unfold E4.sp at hs
 split at hs
 ·rw [←hs]; rfl
 ·cases hs
def EA (n:Bool) (s:ByteArray):Bool×ByteArray:=dI (bif vld n s then -vl n s else 0)
theorem EA.ok:SOK Tryz.prog 193 (EA.sp EA):=by
 refine ⟨Neg.ok.enter,fun vs bl v bl' hs=>Neg.ok.run vs bl v bl' ?_⟩
 unfold EA.sp at hs
 split at hs
 ·rw [←hs]; rfl
 ·cases hs
def dmI (n:Bool) (s:ByteArray) (m:Bool) (t:ByteArray):Int×Int×Int:=bif vld n s&&vld m t then (bif bv t.data.toList==0 then (0,0,10) else (fq (vl n s) (vl m t),fr (vl n s) (vl m t),0)) else (0,0,1)
def E1 (n:Bool) (s:ByteArray) (m:Bool) (t:ByteArray):Bool×ByteArray×Bool×ByteArray×Int:=
 ((dI (dmI n s m t).1).1,(dI (dmI n s m t).1).2,(dI (dmI n s m t).2.1).1,(dI (dmI n s m t).2.1).2,(dmI n s m t).2.2)
def E1.pre (n:Bool) (s:ByteArray) (m:Bool) (t:ByteArray):Bool:=szM s&&szM t
theorem E1.ok:SOK Tryz.prog 198 (E1.sp E1 E1.pre):=by
 refine ⟨DivMod.ok.enter,fun vs bl v bl' hs=>DivMod.ok.run vs bl v bl' ?_⟩
 unfold E1.sp at hs
 split at hs
 ·rename_i n s m t
  rw [←hs]
  show some (_,dmV n s m t,_)=_
  unfold dmV E1 E1.pre dmI
  cases vld n s&&vld m t with
  |false=>rfl
  | true=>
   simp only [cond_true]
   cases bv t.data.toList==0<;>rfl
 ·cases hs
@[simp] theorem vld_dI (z:Int):vld (dI z).1 (dI z).2=true:=HY z
@[simp] theorem Kb (z:Int):vl (dI z).1 (dI z).2=z:=Js z
theorem dI_vl {n:Bool} {s:ByteArray} (h:vld n s=true):dI (vl n s)=(n,s):=by
 have:=iI_vl h
 unfold iI at this
 simp only [Value.agg.injEq,Array.mk.injEq,List.cons.injEq,Value.bool.injEq,Value.string.injEq,and_true] at this
 unfold dI
 rw [this.1,this.2]
theorem dI_inj {a b:Int} (h:dI a=dI b):a=b:=by rw [←Kb a,h,Kb]
theorem Me:dI 0=(false,(⟨#[]⟩:ByteArray)):=rfl
theorem Ey (a b:Int):By (dI a).1 (dI a).2 (dI b).1 (dI b).2=dI (a*b):=by simp [By]
theorem Gp (a b:Int):Dt (dI a).1 (dI a).2 (dI b).1 (dI b).2=dI (a+b):=by simp [Dt]
theorem Ld (a b:Int):EN (dI a).1 (dI a).2 (dI b).1 (dI b).2=dI (a-b):=by simp [EN]
theorem Le (a b:Int):EO (dI a).1 (dI a).2 (dI b).1 (dI b).2=dI ((Int.gcd a b:Nat):Int):=by simp [EO]
theorem Lf (a b:Int):EP (dI a).1 (dI a).2 (dI b).1 (dI b).2=sgn (a-b):=by simp [EP]
theorem KA (a:Int):EZ (dI a).1 (dI a).2=true:=by simp [EZ]
theorem Fy (a:Int):E4 (dI a).1 (dI a).2=sgn a:=by simp [E4]
theorem Gn (a:Int):EA (dI a).1 (dI a).2=dI (-a):=by simp [EA]
theorem bv_dI (z:Int):bv (dI z).2.data.toList=(z.natAbs:Int):=OL (by omega)
theorem Jr {a b:Int} (hb:b≠0):E1 (dI a).1 (dI a).2 (dI b).1 (dI b).2=((dI (fq a b)).1,(dI (fq a b)).2,(dI (fr a b)).1,(dI (fr a b)).2,0):=by
 have h:(bv (dI b).2.data.toList==0)=false:=by rw [bv_dI,beq_eq_false_iff_ne]; omega
 simp [E1,dmI,h]
theorem RB (z:Int):((dI z).2.toList==(⟨#[]⟩:ByteArray).toList)=(z==0):=by
 have h1:=G6 (enc (z.natAbs:Int))
 rw [Fo (by omega)] at h1
 show ((str (enc (z.natAbs:Int))).toList==_)=_
 rw [h1]
 by_cases hz:z=0
 ·subst hz; rfl
 ·rw [E9 hz,E9 (by omega)]
theorem M5 (a b:Int):((dI a).1==(dI b).1&&(dI a).2.toList==(dI b).2.toList)=(a==b):=by
 by_cases h:a=b
 ·subst h; simp
 ·rw [E9 h]
  cases hc:((dI a).1==(dI b).1&&(dI a).2.toList==(dI b).2.toList) with
  |false=>rfl
  | true=>
   simp only [zB,beq_iff_eq] at hc
   have h2:(dI a).2=(dI b).2:=by
    have:((dI a).2==(dI b).2)=true:=by rw [HQ,hc.2]; simp
    exact ByteArray.ext (eq_of_beq (show ((dI a).2.data==(dI b).2.data)=true from this))
   exact absurd (dI_inj (Prod.ext hc.1 h2)) h
def Bd (k:Nat) (z:Int):Prop:=(z.natAbs:Int)<p8 k
theorem Bd.mono {j k:Nat} {z:Int} (h:Bd j z) (hk:j≤k):Bd k z:=Int.lt_of_lt_of_le h (I3 hk)
theorem Mm {k:Nat} {z:Int} (h:Bd k z):(dI z).2.size≤k:=LJ (by omega) h
theorem Gq {k:Nat} {z:Int} (h:Bd k z) (hk:k≤4294967296):szM (dI z).2=true:=by
 have:=Mm h
 simp only [szM,Nat.ble_eq]; omega
theorem Gf {k:Nat} {z:Int} (h:Bd k z) (hk:k≤8589934592):szOk (dI z).2=true:=by
 have:=Mm h
 simp only [szOk,Nat.ble_eq]; omega
theorem Bd.zero (k:Nat):Bd k 0:=Gh k
theorem Bd.one {k:Nat} (h:1≤k):Bd k 1:=(show Bd 1 1 from by unfold Bd; decide).mono h
theorem Bd.neg {k:Nat} {z:Int} (h:Bd k z):Bd k (-z):=by unfold Bd at h ⊢; rw [Int.natAbs_neg]; exact h
theorem Bd.mul {j k:Nat} {a b:Int} (ha:Bd j a) (hb:Bd k b):Bd (j+k) (a*b):=by
 unfold Bd at ha hb ⊢
 rw [Int.natAbs_mul,Int.natCast_mul,Nw]
 have h1:=Gh j
 have h2:=Gh k
 have e1:(a.natAbs:Int)*b.natAbs≤(p8 j-1)*b.natAbs:=Int.mul_le_mul_of_nonneg_right (by omega) (by omega)
 have e2:(p8 j-1)*(b.natAbs:Int)≤(p8 j-1)*p8 k:=Int.mul_le_mul_of_nonneg_left (by omega) (by omega)
 have e3:(p8 j-1)*p8 k=p8 j*p8 k-p8 k:=by rw [Int.sub_mul,Int.one_mul]
 omega
theorem Bd.add {k:Nat} {a b:Int} (ha:Bd k a) (hb:Bd k b):Bd (k+1) (a+b):=by
 unfold Bd at ha hb ⊢
 rw [Gb]
 have:=Gh k
 omega
theorem Bd.le {k:Nat} {a b:Int} (hb:Bd k b) (h:a.natAbs≤b.natAbs):Bd k a:=by
 unfold Bd at hb ⊢
 omega
end Go.Proofs.YtpejalpgficopaaGreatDoor.G
end
