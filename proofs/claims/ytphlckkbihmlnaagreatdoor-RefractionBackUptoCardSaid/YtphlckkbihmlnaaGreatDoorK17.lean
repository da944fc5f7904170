/- A part of what the law's proof leans on. PACKED BY pack.py of this repo. -/
import Derived.Test.YtphlckkbihmlnaaGreatDoorK16
set_option linter.unusedVariables false
set_option linter.unusedSimpArgs false
set_option linter.unusedSectionVars false
set_option linter.defProp false
set_option maxRecDepth 100000
open Go.IntKind (i64 u64 u32)
section
namespace Go.Proofs.YtphlckkbihmlnaaGreatDoor.G
open Go Go.Proofs Go.RowKit RX
def Dg.K {R:Type} (k:Int×Int→R):R:=
 k (16777216,16777216)
theorem Dg.run:xfn Tryz.prog ⟨[],[],[]⟩ [] 60 Tryz.f53 [] []=Dg.K (fun r=>some (.agg ⟨[.int .i64 r.1,.int .i64 r.2]⟩,[])):=by kernel_rfl
def Dg:Int×Int:=Dg.K id
theorem Dg.nat {R:Type} (k:Int×Int→R):Dg.K k=k (Dg.K id):=by
 simp only [Dg.K,acond k,id_eq]
theorem Dg.eq:Dg=(16777216,16777216):=rfl
theorem Dg.ok:SOK Tryz.prog 53 (Dg.sp Dg):=by
 refine Cu (E:=⟨[],[],[]⟩) (L:=[]) ⟨Ac,Ai,Ad,Ah⟩ 60 Tryz.func53 (by decide) rfl Bv fun vs bl v bl' h=> ?_
 unfold Dg.sp at h
 split at h
 ·simp only [zS,zP,true_and] at h
  obtain ⟨rfl,rfl⟩:=h
  refine ⟨?_,by simp [okV,Nat.blt],clo_spec 8 _ (by kernel_rfl),Ay (by kernel_rfl)⟩
  refine (Dg.run).trans ?_
  refine (Dg.nat _).trans ?_
  kernel_rfl
 ·cases h
section
variable {R:Type} (AI:Int→Int→(Bool)) (BN:Int→Int→(Int×Int×Int)) (AW:Int→Int→Int→(Int×Int×Int)) (AY:Int→Int→Int→(Int×Int×Int)) (BQ:Int→Int→Int→(Int×Int×Int)) (BR:Int→Int→Int→Int→Int→(Int×Int×Int)) (AX:Int→Int→Int→Int→Int→(Int×Int×Int)) (BM:Int→Int→Int→Int→Int→(Int×Int×Int)) (BP:Int→Int→Int→Int→Int→(Int×Int×Int)) (AQ:Int→Int→Int→Int→(Int×Int×Int)) (AV:Int→Int→Int→Int→(Int×Int×Int)) (CQ:(Int×Int)) (A2:Int) (A3:Int) (A5:Int) (A4:Int)
def By.K {R:Type} (AI:Int→Int→(Bool)) (BN:Int→Int→(Int×Int×Int)) (AW:Int→Int→Int→(Int×Int×Int)) (AY:Int→Int→Int→(Int×Int×Int)) (BQ:Int→Int→Int→(Int×Int×Int)) (BR:Int→Int→Int→Int→Int→(Int×Int×Int)) (AX:Int→Int→Int→Int→Int→(Int×Int×Int)) (BM:Int→Int→Int→Int→Int→(Int×Int×Int)) (BP:Int→Int→Int→Int→Int→(Int×Int×Int)) (AQ:Int→Int→Int→Int→(Int×Int×Int)) (AV:Int→Int→Int→Int→(Int×Int×Int)) (CQ:(Int×Int)) (A2:Int) (A3:Int) (A5:Int) (A4:Int) (k:Int×Int×Int→R):R:=
 let t0:=AI A2 A3
 bif !t0 then k (0,0,1) else
 let t1:=AI A5 A4
 bif !t1 then k (0,0,1) else
 let t2:=AW 0 A5 A4
 let t3:=AW t2.2.2 A2 A3
 let t4:=AX t3.2.2 CQ.fst CQ.snd t3.1 t3.2.1
 let t5:=BM t4.2.2 t2.1 t2.2.1 t4.1 t4.2.1
 let t6:=AX t5.2.2 CQ.fst CQ.snd t5.1 t5.2.1
 bif t6.2.2 !=0 then k (0,0,t6.2.2) else k (t6.1,t6.2.1,0)
theorem By.run:xfn Tryz.prog ⟨[(21,Ab.sp AI),(23,At.sp BN),(41,Ff.sp AW AY BQ),(45,Fe.sp BR AX BM BP),(46,Au.sp AQ),(47,Bb.sp AV),(53,Dg.sp CQ)],[],[]⟩ [] 60 Tryz.f40 [.agg ⟨[.int .i64 A2,.int .i64 A3]⟩,.agg ⟨[.int .i64 A5,.int .i64 A4]⟩] []=By.K AI BN AW AY BQ BR AX BM BP AQ AV CQ A2 A3 A5 A4 (fun r=>some (.tuple ⟨[.agg ⟨[.int .i64 r.1,.int .i64 r.2.1]⟩,.int .i64 r.2.2]⟩,[])):=by kernel_rfl
def By:Int×Int×Int:=By.K Ab At Ak As Av Bi Aq Ar Bh Au Bb Dg A2 A3 A5 A4 id
theorem By.nat (k:Int×Int×Int→R):By.K AI BN AW AY BQ BR AX BM BP AQ AV CQ A2 A3 A5 A4 k=k (By.K AI BN AW AY BQ BR AX BM BP AQ AV CQ A2 A3 A5 A4 id):=by
 simp only [By.K,acond k,id_eq]
theorem By.eq (a b c d:Int):By a b c d=o3 (rdc (a,b) (c,d)):=by
 simp only [By,By.K,id_eq,Ab.eq,Dg.eq,Ak.eq,Aq.eq,Ar.eq,rdc,V2,sqR,subR,mulR,one2]
 cases hV0:V a b with
 | false=>
  simp only [hV0,st0,kr0,st70,Eg,Cm,Cn,o7,o3,o2,o11,Ej,kp0,cond_true,cond_false,zN,Bool.not_false,Bool.false_and,Bool.and_false,Bool.true_and,Bool.and_true,bne_self_eq_false,beq_self_eq_true,if_true,if_false]
 | true=>
  cases hV1:V c d with
  | false=>
   simp only [hV0,hV1,st0,kr0,st70,Eg,Cm,Cn,o7,o3,o2,o11,Ej,kp0,cond_true,cond_false,zN,Bool.not_false,Bool.false_and,Bool.and_false,Bool.true_and,Bool.and_true,bne_self_eq_false,beq_self_eq_true,if_true,if_false]
  | true=>
   rcases t3c (isq c d) with ⟨q0,q1,h0⟩|⟨q0,q1,e0,n0,h0⟩
   ·simp only [hV0,hV1,h0,st0,kr0,st70,Eg,Cm,Cn,o7,o3,o2,o11,Ej,kp0,cond_true,cond_false,zN,Bool.not_false,Bool.false_and,Bool.and_false,Bool.true_and,Bool.and_true,bne_self_eq_false,beq_self_eq_true,if_true,if_false]
    rcases t3c (isq a b) with ⟨s0,s1,h1⟩|⟨s0,s1,e1,n1,h1⟩
    ·simp only [h1,st0,kr0,st70,Eg,Cm,Cn,o7,o3,o2,o11,Ej,kp0,cond_true,cond_false,zN,Bool.not_false,Bool.false_and,Bool.and_false,Bool.true_and,Bool.and_true,bne_self_eq_false,beq_self_eq_true,if_true,if_false]
     rcases t3c (isub 16777216 16777216 s0 s1) with ⟨t0,t1,h2⟩|⟨t0,t1,e2,n2,h2⟩
     ·simp only [h2,st0,kr0,st70,Eg,Cm,Cn,o7,o3,o2,o11,Ej,kp0,cond_true,cond_false,zN,Bool.not_false,Bool.false_and,Bool.and_false,Bool.true_and,Bool.and_true,bne_self_eq_false,beq_self_eq_true,if_true,if_false]
      rcases t3c (imul q0 q1 t0 t1) with ⟨p0,p1,h3⟩|⟨p0,p1,e3,n3,h3⟩
      ·simp only [h3,st0,kr0,st70,Eg,Cm,Cn,o7,o3,o2,o11,Ej,kp0,cond_true,cond_false,zN,Bool.not_false,Bool.false_and,Bool.and_false,Bool.true_and,Bool.and_true,bne_self_eq_false,beq_self_eq_true,if_true,if_false]
       rcases t3c (isub 16777216 16777216 p0 p1) with ⟨u0,u1,h4⟩|⟨u0,u1,e4,n4,h4⟩
       ·simp only [h4,st0,kr0,st70,Eg,Cm,Cn,o7,o3,o2,o11,Ej,kp0,cond_true,cond_false,zN,Bool.not_false,Bool.false_and,Bool.and_false,Bool.true_and,Bool.and_true,bne_self_eq_false,beq_self_eq_true,if_true,if_false]
       ·simp only [h4,stE n4,krE n4,st7E n4,GX n4,Em n4,Fa n4,kpn _ n4,st0,kr0,st70,Eg,Cm,Cn,o7,o3,o2,o11,Ej,kp0,cond_true,cond_false,zN,Bool.not_false,Bool.false_and,Bool.and_false,Bool.true_and,Bool.and_true,bne_self_eq_false,beq_self_eq_true,if_true,if_false]
      ·simp only [h3,stE n3,krE n3,st7E n3,GX n3,Em n3,Fa n3,kpn _ n3,st0,kr0,st70,Eg,Cm,Cn,o7,o3,o2,o11,Ej,kp0,cond_true,cond_false,zN,Bool.not_false,Bool.false_and,Bool.and_false,Bool.true_and,Bool.and_true,bne_self_eq_false,beq_self_eq_true,if_true,if_false]
     ·simp only [h2,stE n2,krE n2,st7E n2,GX n2,Em n2,Fa n2,kpn _ n2,st0,kr0,st70,Eg,Cm,Cn,o7,o3,o2,o11,Ej,kp0,cond_true,cond_false,zN,Bool.not_false,Bool.false_and,Bool.and_false,Bool.true_and,Bool.and_true,bne_self_eq_false,beq_self_eq_true,if_true,if_false]
    ·simp only [h1,stE n1,krE n1,st7E n1,GX n1,Em n1,Fa n1,kpn _ n1,st0,kr0,st70,Eg,Cm,Cn,o7,o3,o2,o11,Ej,kp0,cond_true,cond_false,zN,Bool.not_false,Bool.false_and,Bool.and_false,Bool.true_and,Bool.and_true,bne_self_eq_false,beq_self_eq_true,if_true,if_false]
   ·simp only [hV0,hV1,h0,stE n0,krE n0,st7E n0,GX n0,Em n0,Fa n0,kpn _ n0,st0,kr0,st70,Eg,Cm,Cn,o7,o3,o2,o11,Ej,kp0,cond_true,cond_false,zN,Bool.not_false,Bool.false_and,Bool.and_false,Bool.true_and,Bool.and_true,bne_self_eq_false,beq_self_eq_true,if_true,if_false]
end
theorem By.ok:SOK Tryz.prog 40 (By.sp By):=by
 refine Cu (E:=⟨[(21,Ab.sp Ab),(23,At.sp At),(41,Ff.sp Ak As Av),(45,Fe.sp Bi Aq Ar Bh),(46,Au.sp Au),(47,Bb.sp Bb),(53,Dg.sp Dg)],[],[]⟩) (L:=[]) ⟨(Aa Ab.ok (Aa At.ok (Aa Ff.ok (Aa Fe.ok (Aa Au.ok (Aa Bb.ok (Aa Dg.ok Ac))))))),Ai,Ad,Ah⟩ 60 Tryz.func40 (by decide) rfl Bv fun vs bl v bl' h=> ?_
 unfold By.sp at h
 split at h
 ·rename_i A2 A3 A5 A4
  simp only [zS,zP,true_and] at h
  obtain ⟨rfl,rfl⟩:=h
  refine ⟨?_,by simp [okV,Nat.blt],clo_spec 8 _ (by kernel_rfl),Ay (by kernel_rfl)⟩
  refine (By.run Ab At Ak As Av Bi Aq Ar Bh Au Bb Dg A2 A3 A5 A4).trans ?_
  refine (By.nat Ab At Ak As Av Bi Aq Ar Bh Au Bb Dg A2 A3 A5 A4 _).trans ?_
  kernel_rfl
 ·cases h
section
variable {R:Type} (s0_0:Int) (A5:Int) (A4:Int) (AF:Int) (AE:Int) (AH:Int) (AG:Int)
def Ba.K (k:Int×Int×Int×Int×Int×Int×Int×Int→R):R:=
 bif s0_0 !=0 then k (0,0,0,0,0,0,s0_0,s0_0) else k (A5,A4,AF,AE,AH,AG,0,s0_0)
theorem Ba.run:xfn Tryz.prog ⟨[],[],[]⟩ [] 60 Tryz.f27 [.pointer (some ⟨0,0,none⟩),.agg ⟨[.int .i64 A5,.int .i64 A4,.int .i64 AF,.int .i64 AE,.int .i64 AH,.int .i64 AG]⟩] [.cs [.int .i64 s0_0] 61]=Ba.K s0_0 A5 A4 AF AE AH AG (fun r=>some (.tuple ⟨[.agg ⟨[.int .i64 r.1,.int .i64 r.2.1,.int .i64 r.2.2.1,.int .i64 r.2.2.2.1,.int .i64 r.2.2.2.2.1,.int .i64 r.2.2.2.2.2.1]⟩,.int .i64 r.2.2.2.2.2.2.1]⟩,[.cs [.int .i64 r.2.2.2.2.2.2.2] 61])):=by kernel_rfl
def Ba:Int×Int×Int×Int×Int×Int×Int×Int:=Ba.K s0_0 A5 A4 AF AE AH AG id
theorem Ba.nat (k:Int×Int×Int×Int×Int×Int×Int×Int→R):Ba.K s0_0 A5 A4 AF AE AH AG k=k (Ba.K s0_0 A5 A4 AF AE AH AG id):=by
 simp only [Ba.K,acond k,id_eq]
end
theorem Ba.ok:SOK Tryz.prog 27 (Ba.sp Ba):=by
 refine Cu (E:=⟨[],[],[]⟩) (L:=[]) ⟨Ac,Ai,Ad,Ah⟩ 60 Tryz.func27 (by decide) rfl Bv fun vs bl v bl' h=> ?_
 unfold Ba.sp at h
 split at h
 ·rename_i A5 A4 AF AE AH AG s0_0
  simp only [zS,zP,true_and] at h
  obtain ⟨rfl,rfl⟩:=h
  refine ⟨?_,by simp [okV,Nat.blt],clo_spec 8 _ (by kernel_rfl),Ay (by kernel_rfl)⟩
  refine (Ba.run s0_0 A5 A4 AF AE AH AG).trans ?_
  refine (Ba.nat s0_0 A5 A4 AF AE AH AG _).trans ?_
  kernel_rfl
 ·cases h
section
variable {R:Type} (AI:Int→Int→(Bool)) (C1:Int→Int→Int→Int→Int→Int→Int→(Int×Int×Int×Int×Int×Int×Int×Int)) (C7:Int→Int→Int→Int→Int→Int→(Bool)) (CU:Int→Int→Int→Int→Int→(Int×Int×Int)) (A2:Int) (A3:Int) (A8:Int) (A7:Int) (A6:Int) (A9:Int) (A5:Int) (A4:Int)
def Ds.K (k:Int×Int×Int×Int×Int×Int×Int→R):R:=
 let t0:=C7 A2 A3 A8 A7 A6 A9
 bif !t0 then k (0,0,0,0,0,0,1) else
 let t1:=AI A5 A4
 bif !t1 then k (0,0,0,0,0,0,1) else
 let t2:=CU 0 A2 A3 A5 A4
 let t3:=CU t2.2.2 A8 A7 A5 A4
 let t4:=CU t3.2.2 A6 A9 A5 A4
 let t5:=C1 t4.2.2 t2.1 t2.2.1 t3.1 t3.2.1 t4.1 t4.2.1
 k (t5.1,t5.2.1,t5.2.2.1,t5.2.2.2.1,t5.2.2.2.2.1,t5.2.2.2.2.2.1,t5.2.2.2.2.2.2.1)
theorem Ds.run:xfn Tryz.prog ⟨[(21,Ab.sp AI),(27,Ba.sp C1),(77,Bk.sp C7),(78,Bz.sp CU)],[],[]⟩ [] 60 Tryz.f81 [.agg ⟨[.int .i64 A2,.int .i64 A3,.int .i64 A8,.int .i64 A7,.int .i64 A6,.int .i64 A9]⟩,.agg ⟨[.int .i64 A5,.int .i64 A4]⟩] []=Ds.K AI C1 C7 CU A2 A3 A8 A7 A6 A9 A5 A4 (fun r=>some (.tuple ⟨[.agg ⟨[.int .i64 r.1,.int .i64 r.2.1,.int .i64 r.2.2.1,.int .i64 r.2.2.2.1,.int .i64 r.2.2.2.2.1,.int .i64 r.2.2.2.2.2.1]⟩,.int .i64 r.2.2.2.2.2.2]⟩,[])):=by kernel_rfl
def Ds:Int×Int×Int×Int×Int×Int×Int:=Ds.K Ab Ba Bk Bz A2 A3 A8 A7 A6 A9 A5 A4 id
theorem Ds.nat (k:Int×Int×Int×Int×Int×Int×Int→R):Ds.K AI C1 C7 CU A2 A3 A8 A7 A6 A9 A5 A4 k=k (Ds.K AI C1 C7 CU A2 A3 A8 A7 A6 A9 A5 A4 id):=by
 simp only [Ds.K,acond k,id_eq]
theorem Ds.eq (a0 a1 a2 a3 a4 a5 r0 r1:Int):Ds a0 a1 a2 a3 a4 a5 r0 r1=o7 (dscale ((a0,a1),(a2,a3),(a4,a5)) (r0,r1)):=by
 simp only [Ds,Ds.K,id_eq,Bk.eq,Bz.eq,Ab.eq,Ba,Ba.K,id_eq,dscale,dzip,mulR,V2]
 cases hV0:VB ((a0,a1),(a2,a3),(a4,a5)) with
 | false=>
  simp only [hV0,st0,kr0,st70,Eg,Cm,Cn,o7,o3,o2,o11,Ej,kp0,cond_true,cond_false,zN,Bool.not_false,Bool.false_and,Bool.and_false,Bool.true_and,Bool.and_true,bne_self_eq_false,beq_self_eq_true,if_true,if_false]
 | true=>
  cases hV1:V r0 r1 with
  | false=>
   simp only [hV0,hV1,st0,kr0,st70,Eg,Cm,Cn,o7,o3,o2,o11,Ej,kp0,cond_true,cond_false,zN,Bool.not_false,Bool.false_and,Bool.and_false,Bool.true_and,Bool.and_true,bne_self_eq_false,beq_self_eq_true,if_true,if_false]
  | true=>
   rcases t3c (imul a0 a1 r0 r1) with ⟨x0,x1,h0⟩|⟨x0,x1,e0,n0,h0⟩
   ·simp only [hV0,hV1,h0,st0,kr0,st70,Eg,Cm,Cn,o7,o3,o2,o11,Ej,kp0,cond_true,cond_false,zN,Bool.not_false,Bool.false_and,Bool.and_false,Bool.true_and,Bool.and_true,bne_self_eq_false,beq_self_eq_true,if_true,if_false]
    rcases t3c (imul a2 a3 r0 r1) with ⟨y0,y1,h1⟩|⟨y0,y1,e1,n1,h1⟩
    ·simp only [h1,st0,kr0,st70,Eg,Cm,Cn,o7,o3,o2,o11,Ej,kp0,cond_true,cond_false,zN,Bool.not_false,Bool.false_and,Bool.and_false,Bool.true_and,Bool.and_true,bne_self_eq_false,beq_self_eq_true,if_true,if_false]
     rcases t3c (imul a4 a5 r0 r1) with ⟨z0,z1,h2⟩|⟨z0,z1,e2,n2,h2⟩
     ·simp only [h2,st0,kr0,st70,Eg,Cm,Cn,o7,o3,o2,o11,Ej,kp0,cond_true,cond_false,zN,Bool.not_false,Bool.false_and,Bool.and_false,Bool.true_and,Bool.and_true,bne_self_eq_false,beq_self_eq_true,if_true,if_false]
     ·simp only [h2,stE n2,krE n2,st7E n2,GX n2,Em n2,Fa n2,kpn _ n2,st0,kr0,st70,Eg,Cm,Cn,o7,o3,o2,o11,Ej,kp0,cond_true,cond_false,zN,Bool.not_false,Bool.false_and,Bool.and_false,Bool.true_and,Bool.and_true,bne_self_eq_false,beq_self_eq_true,if_true,if_false]
    ·simp only [h1,stE n1,krE n1,st7E n1,GX n1,Em n1,Fa n1,kpn _ n1,st0,kr0,st70,Eg,Cm,Cn,o7,o3,o2,o11,Ej,kp0,cond_true,cond_false,zN,Bool.not_false,Bool.false_and,Bool.and_false,Bool.true_and,Bool.and_true,bne_self_eq_false,beq_self_eq_true,if_true,if_false]
   ·simp only [hV0,hV1,h0,stE n0,krE n0,st7E n0,GX n0,Em n0,Fa n0,kpn _ n0,st0,kr0,st70,Eg,Cm,Cn,o7,o3,o2,o11,Ej,kp0,cond_true,cond_false,zN,Bool.not_false,Bool.false_and,Bool.and_false,Bool.true_and,Bool.and_true,bne_self_eq_false,beq_self_eq_true,if_true,if_false]
end
theorem Ds.ok:SOK Tryz.prog 81 (Ds.sp Ds):=by
 refine Cu (E:=⟨[(21,Ab.sp Ab),(27,Ba.sp Ba),(77,Bk.sp Bk),(78,Bz.sp Bz)],[],[]⟩) (L:=[]) ⟨(Aa Ab.ok (Aa Ba.ok (Aa Bk.ok (Aa Bz.ok Ac)))),Ai,Ad,Ah⟩ 60 Tryz.func81 (by decide) rfl Bv fun vs bl v bl' h=> ?_
 unfold Ds.sp at h
 split at h
 ·rename_i A2 A3 A8 A7 A6 A9 A5 A4
  simp only [zS,zP,true_and] at h
  obtain ⟨rfl,rfl⟩:=h
  refine ⟨?_,by simp [okV,Nat.blt],clo_spec 8 _ (by kernel_rfl),Ay (by kernel_rfl)⟩
  refine (Ds.run Ab Ba Bk Bz A2 A3 A8 A7 A6 A9 A5 A4).trans ?_
  refine (Ds.nat Ab Ba Bk Bz A2 A3 A8 A7 A6 A9 A5 A4 _).trans ?_
  kernel_rfl
 ·cases h
section
variable {R:Type} (FG:Int→Int→Int→Int→Int→Int→Int→Int→(Int×Int×Int×Int×Int×Int×Int)) (s0_0:Int) (A5:Int) (A4:Int) (AF:Int) (AE:Int) (AH:Int) (AG:Int) (AJ:Int) (AK:Int)
def Cd.K (k:Int×Int×Int×Int×Int×Int×Int→R):R:=
 bif s0_0 !=0 then k (A5,A4,AF,AE,AH,AG,s0_0) else
 let t0:=FG A5 A4 AF AE AH AG AJ AK
 k (t0.1,t0.2.1,t0.2.2.1,t0.2.2.2.1,t0.2.2.2.2.1,t0.2.2.2.2.2.1,t0.2.2.2.2.2.2)
theorem Cd.run:xfn Tryz.prog ⟨[(81,Ds.sp FG)],[],[]⟩ [] 60 Tryz.f44 [.pointer (some ⟨0,0,none⟩),.agg ⟨[.int .i64 A5,.int .i64 A4,.int .i64 AF,.int .i64 AE,.int .i64 AH,.int .i64 AG]⟩,.agg ⟨[.int .i64 AJ,.int .i64 AK]⟩] [.cs [.int .i64 s0_0] 76]=Cd.K FG s0_0 A5 A4 AF AE AH AG AJ AK (fun r=>some (.agg ⟨[.int .i64 r.1,.int .i64 r.2.1,.int .i64 r.2.2.1,.int .i64 r.2.2.2.1,.int .i64 r.2.2.2.2.1,.int .i64 r.2.2.2.2.2.1]⟩,[.cs [.int .i64 r.2.2.2.2.2.2] 76])):=by kernel_rfl
def Cd:Int×Int×Int×Int×Int×Int×Int:=Cd.K Ds s0_0 A5 A4 AF AE AH AG AJ AK id
theorem Cd.nat (k:Int×Int×Int×Int×Int×Int×Int→R):Cd.K FG s0_0 A5 A4 AF AE AH AG AJ AK k=k (Cd.K FG s0_0 A5 A4 AF AE AH AG AJ AK id):=by
 simp only [Cd.K,acond k,id_eq]
theorem Cd.eq (s a0 a1 a2 a3 a4 a5 r0 r1:Int):Cd s a0 a1 a2 a3 a4 a5 r0 r1=st7 s ((a0,a1),(a2,a3),(a4,a5)) (dscale ((a0,a1),(a2,a3),(a4,a5)) (r0,r1)):=by
 simp only [Cd,Cd.K,id_eq,Ds.eq,st7]
end
theorem Cd.ok:SOK Tryz.prog 44 (Cd.sp Cd):=by
 refine Cu (E:=⟨[(81,Ds.sp Ds)],[],[]⟩) (L:=[]) ⟨(Aa Ds.ok Ac),Ai,Ad,Ah⟩ 60 Tryz.func44 (by decide) rfl Bv fun vs bl v bl' h=> ?_
 unfold Cd.sp at h
 split at h
 ·rename_i A5 A4 AF AE AH AG AJ AK s0_0
  simp only [zS,zP,true_and] at h
  obtain ⟨rfl,rfl⟩:=h
  refine ⟨?_,by simp [okV,Nat.blt],clo_spec 8 _ (by kernel_rfl),Ay (by kernel_rfl)⟩
  refine (Cd.run Ds s0_0 A5 A4 AF AE AH AG AJ AK).trans ?_
  refine (Cd.nat Ds s0_0 A5 A4 AF AE AH AG AJ AK _).trans ?_
  kernel_rfl
 ·cases h
section
variable {R:Type} (C3:Int→Int→Int→Int→Int→(Int×Int×Int)) (C1:Int→Int→Int→Int→Int→Int→Int→(Int×Int×Int×Int×Int×Int×Int×Int)) (C7:Int→Int→Int→Int→Int→Int→(Bool)) (A2:Int) (A3:Int) (A8:Int) (A7:Int) (A6:Int) (A9:Int) (A5:Int) (A4:Int) (AF:Int) (AE:Int) (AH:Int) (AG:Int)
def Ef.K (k:Int×Int×Int×Int×Int×Int×Int→R):R:=
 let t0:=C7 A2 A3 A8 A7 A6 A9
 bif !t0 then k (0,0,0,0,0,0,1) else
 let t1:=C7 A5 A4 AF AE AH AG
 bif !t1 then k (0,0,0,0,0,0,1) else
 let t2:=C3 0 A2 A3 A5 A4
 let t3:=C3 t2.2.2 A8 A7 AF AE
 let t4:=C3 t3.2.2 A6 A9 AH AG
 let t5:=C1 t4.2.2 t2.1 t2.2.1 t3.1 t3.2.1 t4.1 t4.2.1
 k (t5.1,t5.2.1,t5.2.2.1,t5.2.2.2.1,t5.2.2.2.2.1,t5.2.2.2.2.2.1,t5.2.2.2.2.2.2.1)
theorem Ef.run:xfn Tryz.prog ⟨[(24,Bj.sp C3),(27,Ba.sp C1),(77,Bk.sp C7)],[],[]⟩ [] 60 Tryz.f83 [.agg ⟨[.int .i64 A2,.int .i64 A3,.int .i64 A8,.int .i64 A7,.int .i64 A6,.int .i64 A9]⟩,.agg ⟨[.int .i64 A5,.int .i64 A4,.int .i64 AF,.int .i64 AE,.int .i64 AH,.int .i64 AG]⟩] []=Ef.K C3 C1 C7 A2 A3 A8 A7 A6 A9 A5 A4 AF AE AH AG (fun r=>some (.tuple ⟨[.agg ⟨[.int .i64 r.1,.int .i64 r.2.1,.int .i64 r.2.2.1,.int .i64 r.2.2.2.1,.int .i64 r.2.2.2.2.1,.int .i64 r.2.2.2.2.2.1]⟩,.int .i64 r.2.2.2.2.2.2]⟩,[])):=by kernel_rfl
def Ef:Int×Int×Int×Int×Int×Int×Int:=Ef.K Bj Ba Bk A2 A3 A8 A7 A6 A9 A5 A4 AF AE AH AG id
theorem Ef.nat (k:Int×Int×Int×Int×Int×Int×Int→R):Ef.K C3 C1 C7 A2 A3 A8 A7 A6 A9 A5 A4 AF AE AH AG k=k (Ef.K C3 C1 C7 A2 A3 A8 A7 A6 A9 A5 A4 AF AE AH AG id):=by
 simp only [Ef.K,acond k,id_eq]
theorem Ef.eq (a0 a1 a2 a3 a4 a5 b0 b1 b2 b3 b4 b5:Int):Ef a0 a1 a2 a3 a4 a5 b0 b1 b2 b3 b4 b5=o7 (dadd ((a0,a1),(a2,a3),(a4,a5)) ((b0,b1),(b2,b3),(b4,b5))):=by
 simp only [Ef,Ef.K,id_eq,Bk.eq,Bj.eq,Ba,Ba.K,id_eq,dadd,dzip,addR]
 cases hV0:VB ((a0,a1),(a2,a3),(a4,a5)) with
 | false=>
  simp only [hV0,st0,kr0,st70,Eg,Cm,Cn,o7,o3,o2,o11,Ej,kp0,cond_true,cond_false,zN,Bool.not_false,Bool.false_and,Bool.and_false,Bool.true_and,Bool.and_true,bne_self_eq_false,beq_self_eq_true,if_true,if_false]
 | true=>
  cases hV1:VB ((b0,b1),(b2,b3),(b4,b5)) with
  | false=>
   simp only [hV0,hV1,st0,kr0,st70,Eg,Cm,Cn,o7,o3,o2,o11,Ej,kp0,cond_true,cond_false,zN,Bool.not_false,Bool.false_and,Bool.and_false,Bool.true_and,Bool.and_true,bne_self_eq_false,beq_self_eq_true,if_true,if_false]
  | true=>
   rcases t3c (iadd a0 a1 b0 b1) with ⟨x0,x1,h0⟩|⟨x0,x1,e0,n0,h0⟩
   ·simp only [hV0,hV1,h0,st0,kr0,st70,Eg,Cm,Cn,o7,o3,o2,o11,Ej,kp0,cond_true,cond_false,zN,Bool.not_false,Bool.false_and,Bool.and_false,Bool.true_and,Bool.and_true,bne_self_eq_false,beq_self_eq_true,if_true,if_false]
    rcases t3c (iadd a2 a3 b2 b3) with ⟨y0,y1,h1⟩|⟨y0,y1,e1,n1,h1⟩
    ·simp only [h1,st0,kr0,st70,Eg,Cm,Cn,o7,o3,o2,o11,Ej,kp0,cond_true,cond_false,zN,Bool.not_false,Bool.false_and,Bool.and_false,Bool.true_and,Bool.and_true,bne_self_eq_false,beq_self_eq_true,if_true,if_false]
     rcases t3c (iadd a4 a5 b4 b5) with ⟨z0,z1,h2⟩|⟨z0,z1,e2,n2,h2⟩
     ·simp only [h2,st0,kr0,st70,Eg,Cm,Cn,o7,o3,o2,o11,Ej,kp0,cond_true,cond_false,zN,Bool.not_false,Bool.false_and,Bool.and_false,Bool.true_and,Bool.and_true,bne_self_eq_false,beq_self_eq_true,if_true,if_false]
     ·simp only [h2,stE n2,krE n2,st7E n2,GX n2,Em n2,Fa n2,kpn _ n2,st0,kr0,st70,Eg,Cm,Cn,o7,o3,o2,o11,Ej,kp0,cond_true,cond_false,zN,Bool.not_false,Bool.false_and,Bool.and_false,Bool.true_and,Bool.and_true,bne_self_eq_false,beq_self_eq_true,if_true,if_false]
    ·simp only [h1,stE n1,krE n1,st7E n1,GX n1,Em n1,Fa n1,kpn _ n1,st0,kr0,st70,Eg,Cm,Cn,o7,o3,o2,o11,Ej,kp0,cond_true,cond_false,zN,Bool.not_false,Bool.false_and,Bool.and_false,Bool.true_and,Bool.and_true,bne_self_eq_false,beq_self_eq_true,if_true,if_false]
   ·simp only [hV0,hV1,h0,stE n0,krE n0,st7E n0,GX n0,Em n0,Fa n0,kpn _ n0,st0,kr0,st70,Eg,Cm,Cn,o7,o3,o2,o11,Ej,kp0,cond_true,cond_false,zN,Bool.not_false,Bool.false_and,Bool.and_false,Bool.true_and,Bool.and_true,bne_self_eq_false,beq_self_eq_true,if_true,if_false]
end
theorem Ef.ok:SOK Tryz.prog 83 (Ef.sp Ef):=by
 refine Cu (E:=⟨[(24,Bj.sp Bj),(27,Ba.sp Ba),(77,Bk.sp Bk)],[],[]⟩) (L:=[]) ⟨(Aa Bj.ok (Aa Ba.ok (Aa Bk.ok Ac))),Ai,Ad,Ah⟩ 60 Tryz.func83 (by decide) rfl Bv fun vs bl v bl' h=> ?_
 unfold Ef.sp at h
 split at h
 ·rename_i A2 A3 A8 A7 A6 A9 A5 A4 AF AE AH AG
  simp only [zS,zP,true_and] at h
  obtain ⟨rfl,rfl⟩:=h
  refine ⟨?_,by simp [okV,Nat.blt],clo_spec 8 _ (by kernel_rfl),Ay (by kernel_rfl)⟩
  refine (Ef.run Bj Ba Bk A2 A3 A8 A7 A6 A9 A5 A4 AF AE AH AG).trans ?_
  refine (Ef.nat Bj Ba Bk A2 A3 A8 A7 A6 A9 A5 A4 AF AE AH AG _).trans ?_
  kernel_rfl
 ·cases h
section
variable {R:Type} (FR:Int→Int→Int→Int→Int→Int→Int→Int→Int→Int→Int→Int→(Int×Int×Int×Int×Int×Int×Int)) (s0_0:Int) (A5:Int) (A4:Int) (AF:Int) (AE:Int) (AH:Int) (AG:Int) (AJ:Int) (AK:Int) (GI:Int) (GH:Int) (GG:Int) (GF:Int)
def Cq.K (k:Int×Int×Int×Int×Int×Int×Int→R):R:=
 bif s0_0 !=0 then k (A5,A4,AF,AE,AH,AG,s0_0) else
 let t0:=FR A5 A4 AF AE AH AG AJ AK GI GH GG GF
 k (t0.1,t0.2.1,t0.2.2.1,t0.2.2.2.1,t0.2.2.2.2.1,t0.2.2.2.2.2.1,t0.2.2.2.2.2.2)
theorem Cq.run:xfn Tryz.prog ⟨[(83,Ef.sp FR)],[],[]⟩ [] 60 Tryz.f48 [.pointer (some ⟨0,0,none⟩),.agg ⟨[.int .i64 A5,.int .i64 A4,.int .i64 AF,.int .i64 AE,.int .i64 AH,.int .i64 AG]⟩,.agg ⟨[.int .i64 AJ,.int .i64 AK,.int .i64 GI,.int .i64 GH,.int .i64 GG,.int .i64 GF]⟩] [.cs [.int .i64 s0_0] 76]=Cq.K FR s0_0 A5 A4 AF AE AH AG AJ AK GI GH GG GF (fun r=>some (.agg ⟨[.int .i64 r.1,.int .i64 r.2.1,.int .i64 r.2.2.1,.int .i64 r.2.2.2.1,.int .i64 r.2.2.2.2.1,.int .i64 r.2.2.2.2.2.1]⟩,[.cs [.int .i64 r.2.2.2.2.2.2] 76])):=by kernel_rfl
def Cq:Int×Int×Int×Int×Int×Int×Int:=Cq.K Ef s0_0 A5 A4 AF AE AH AG AJ AK GI GH GG GF id
theorem Cq.nat (k:Int×Int×Int×Int×Int×Int×Int→R):Cq.K FR s0_0 A5 A4 AF AE AH AG AJ AK GI GH GG GF k=k (Cq.K FR s0_0 A5 A4 AF AE AH AG AJ AK GI GH GG GF id):=by
 simp only [Cq.K,acond k,id_eq]
theorem Cq.eq (s a0 a1 a2 a3 a4 a5 b0 b1 b2 b3 b4 b5:Int):Cq s a0 a1 a2 a3 a4 a5 b0 b1 b2 b3 b4 b5=st7 s ((a0,a1),(a2,a3),(a4,a5)) (dadd ((a0,a1),(a2,a3),(a4,a5)) ((b0,b1),(b2,b3),(b4,b5))):=by
 simp only [Cq,Cq.K,id_eq,Ef.eq,st7]
end
theorem Cq.ok:SOK Tryz.prog 48 (Cq.sp Cq):=by
 refine Cu (E:=⟨[(83,Ef.sp Ef)],[],[]⟩) (L:=[]) ⟨(Aa Ef.ok Ac),Ai,Ad,Ah⟩ 60 Tryz.func48 (by decide) rfl Bv fun vs bl v bl' h=> ?_
 unfold Cq.sp at h
 split at h
 ·rename_i A5 A4 AF AE AH AG AJ AK GI GH GG GF s0_0
  simp only [zS,zP,true_and] at h
  obtain ⟨rfl,rfl⟩:=h
  refine ⟨?_,by simp [okV,Nat.blt],clo_spec 8 _ (by kernel_rfl),Ay (by kernel_rfl)⟩
  refine (Cq.run Ef s0_0 A5 A4 AF AE AH AG AJ AK GI GH GG GF).trans ?_
  refine (Cq.nat Ef s0_0 A5 A4 AF AE AH AG AJ AK GI GH GG GF _).trans ?_
  kernel_rfl
 ·cases h
section
variable {R:Type} (CX:Int→(Int×Int×Int×Int×Int×Int×Int×Int×Int×Int×Int)) (D7:Int→Int→Int→Int→Int→Int→Int→Int→Int→Int→Int→Int→Int→Int→(Bool)) (DZ:Int→Int→Int→Int→Int→Int→Int→Int→Int→Int→Int→Int→(Int×Int×Int)) (DX:Int→Int→(Int)) (D2:Int→Int→Int→Int→(Int×Int×Int)) (AW:Int→Int→Int→(Int×Int×Int)) (AY:Int→Int→Int→(Int×Int×Int)) (BQ:Int→Int→Int→(Int×Int×Int)) (BT:Int→Int→(Int×Int×Int)) (CO:Int→Int→(Int×Int×Int)) (D9:Int→Int→Int→Int→Int→Int→Int→Int→Int→(Int×Int×Int×Int×Int×Int×Int)) (BR:Int→Int→Int→Int→Int→(Int×Int×Int)) (AX:Int→Int→Int→Int→Int→(Int×Int×Int)) (BM:Int→Int→Int→Int→Int→(Int×Int×Int)) (BP:Int→Int→Int→Int→Int→(Int×Int×Int)) (AQ:Int→Int→Int→Int→(Int×Int×Int)) (AV:Int→Int→Int→Int→(Int×Int×Int)) (ED:Int→Int→Int→Int→Int→Int→Int→Int→Int→Int→Int→Int→Int→(Int×Int×Int×Int×Int×Int×Int)) (A2:Int) (A3:Int) (A8:Int) (A7:Int) (A6:Int) (A9:Int) (A5:Int) (A4:Int) (AF:Int) (AE:Int) (AH:Int) (AG:Int) (AJ:Int) (AK:Int)
def Ca.K {R:Type} (CX:Int→(Int×Int×Int×Int×Int×Int×Int×Int×Int×Int×Int)) (D7:Int→Int→Int→Int→Int→Int→Int→Int→Int→Int→Int→Int→Int→Int→(Bool)) (DZ:Int→Int→Int→Int→Int→Int→Int→Int→Int→Int→Int→Int→(Int×Int×Int)) (DX:Int→Int→(Int)) (D2:Int→Int→Int→Int→(Int×Int×Int)) (AW:Int→Int→Int→(Int×Int×Int)) (AY:Int→Int→Int→(Int×Int×Int)) (BQ:Int→Int→Int→(Int×Int×Int)) (BT:Int→Int→(Int×Int×Int)) (CO:Int→Int→(Int×Int×Int)) (D9:Int→Int→Int→Int→Int→Int→Int→Int→Int→(Int×Int×Int×Int×Int×Int×Int)) (BR:Int→Int→Int→Int→Int→(Int×Int×Int)) (AX:Int→Int→Int→Int→Int→(Int×Int×Int)) (BM:Int→Int→Int→Int→Int→(Int×Int×Int)) (BP:Int→Int→Int→Int→Int→(Int×Int×Int)) (AQ:Int→Int→Int→Int→(Int×Int×Int)) (AV:Int→Int→Int→Int→(Int×Int×Int)) (ED:Int→Int→Int→Int→Int→Int→Int→Int→Int→Int→Int→Int→Int→(Int×Int×Int×Int×Int×Int×Int)) (A2:Int) (A3:Int) (A8:Int) (A7:Int) (A6:Int) (A9:Int) (A5:Int) (A4:Int) (AF:Int) (AE:Int) (AH:Int) (AG:Int) (AJ:Int) (AK:Int) (k:Int×Int×Int×Int×Int×Int×Int×Int×Int×Int×Int→R):R:=
 let t0:=D7 A2 A3 A8 A7 A6 A9 A5 A4 AF AE AH AG AJ AK
 bif !t0 then
 let t1:=CX 1
 k (t1.1,t1.2.1,t1.2.2.1,t1.2.2.2.1,t1.2.2.2.2.1,t1.2.2.2.2.2.1,t1.2.2.2.2.2.2.1,t1.2.2.2.2.2.2.2.1,t1.2.2.2.2.2.2.2.2.1,t1.2.2.2.2.2.2.2.2.2.1,t1.2.2.2.2.2.2.2.2.2.2) else
 let t2:=DZ A2 A3 A8 A7 A6 A9 A5 A4 AF AE AH AG
 bif t2.2.2 !=0 then
 let t3:=CX t2.2.2
 k (t3.1,t3.2.1,t3.2.2.1,t3.2.2.2.1,t3.2.2.2.2.1,t3.2.2.2.2.2.1,t3.2.2.2.2.2.2.1,t3.2.2.2.2.2.2.2.1,t3.2.2.2.2.2.2.2.2.1,t3.2.2.2.2.2.2.2.2.2.1,t3.2.2.2.2.2.2.2.2.2.2) else
 let t4:=DX t2.1 t2.2.1
 bif t4==0 then
 let t5:=CX 9
 k (t5.1,t5.2.1,t5.2.2.1,t5.2.2.2.1,t5.2.2.2.2.1,t5.2.2.2.2.2.1,t5.2.2.2.2.2.2.1,t5.2.2.2.2.2.2.2.1,t5.2.2.2.2.2.2.2.2.1,t5.2.2.2.2.2.2.2.2.2.1,t5.2.2.2.2.2.2.2.2.2.2) else
 let t6:=D2 t2.1 t2.2.1 AJ AK
 bif t6.2.2 !=0 then
 let t7:=CX t6.2.2
 k (t7.1,t7.2.1,t7.2.2.1,t7.2.2.2.1,t7.2.2.2.2.1,t7.2.2.2.2.2.1,t7.2.2.2.2.2.2.1,t7.2.2.2.2.2.2.2.1,t7.2.2.2.2.2.2.2.2.1,t7.2.2.2.2.2.2.2.2.2.1,t7.2.2.2.2.2.2.2.2.2.2) else bif decide (t6.1<0) then
 let t8:=CX 15
 k (t8.1,t8.2.1,t8.2.2.1,t8.2.2.2.1,t8.2.2.2.2.1,t8.2.2.2.2.2.1,t8.2.2.2.2.2.2.1,t8.2.2.2.2.2.2.2.1,t8.2.2.2.2.2.2.2.2.1,t8.2.2.2.2.2.2.2.2.2.1,t8.2.2.2.2.2.2.2.2.2.2) else bif decide (t4<0) then
 let t9:=AY 0 t6.1 t6.2.1
 let t10:=BQ t9.2.2 t9.1 t9.2.1
 let t11:=D9 t10.2.2 A2 A3 A8 A7 A6 A9 AJ AK
 let t12:=BM t11.2.2.2.2.2.2 AJ AK t2.1 t2.2.1
 let t13:=AX t12.2.2 t10.1 t10.2.1 t12.1 t12.2.1
 let t14:=D9 t13.2.2 A5 A4 AF AE AH AG t13.1 t13.2.1
 let t15:=ED t14.2.2.2.2.2.2 t11.1 t11.2.1 t11.2.2.1 t11.2.2.2.1 t11.2.2.2.2.1 t11.2.2.2.2.2.1 t14.1 t14.2.1 t14.2.2.1 t14.2.2.2.1 t14.2.2.2.2.1 t14.2.2.2.2.2.1
 bif t15.2.2.2.2.2.2 !=0 then
 let t16:=CX t15.2.2.2.2.2.2
 k (t16.1,t16.2.1,t16.2.2.1,t16.2.2.2.1,t16.2.2.2.2.1,t16.2.2.2.2.2.1,t16.2.2.2.2.2.2.1,t16.2.2.2.2.2.2.2.1,t16.2.2.2.2.2.2.2.2.1,t16.2.2.2.2.2.2.2.2.2.1,t16.2.2.2.2.2.2.2.2.2.2) else k (t15.1,t15.2.1,t15.2.2.1,t15.2.2.2.1,t15.2.2.2.2.1,t15.2.2.2.2.2.1,t2.1,t2.2.1,t10.1,t10.2.1,0) else
 let t17:=AY 0 t6.1 t6.2.1
 let t18:=D9 t17.2.2 A2 A3 A8 A7 A6 A9 AJ AK
 let t19:=BM t18.2.2.2.2.2.2 AJ AK t2.1 t2.2.1
 let t20:=AX t19.2.2 t17.1 t17.2.1 t19.1 t19.2.1
 let t21:=D9 t20.2.2 A5 A4 AF AE AH AG t20.1 t20.2.1
 let t22:=ED t21.2.2.2.2.2.2 t18.1 t18.2.1 t18.2.2.1 t18.2.2.2.1 t18.2.2.2.2.1 t18.2.2.2.2.2.1 t21.1 t21.2.1 t21.2.2.1 t21.2.2.2.1 t21.2.2.2.2.1 t21.2.2.2.2.2.1
 bif t22.2.2.2.2.2.2 !=0 then
 let t23:=CX t22.2.2.2.2.2.2
 k (t23.1,t23.2.1,t23.2.2.1,t23.2.2.2.1,t23.2.2.2.2.1,t23.2.2.2.2.2.1,t23.2.2.2.2.2.2.1,t23.2.2.2.2.2.2.2.1,t23.2.2.2.2.2.2.2.2.1,t23.2.2.2.2.2.2.2.2.2.1,t23.2.2.2.2.2.2.2.2.2.2) else k (t22.1,t22.2.1,t22.2.2.1,t22.2.2.2.1,t22.2.2.2.2.1,t22.2.2.2.2.2.1,t2.1,t2.2.1,t17.1,t17.2.1,0)
theorem Ca.run:xfn Tryz.prog ⟨[(36,Cs.sp CX),(37,Co.sp D7),(38,Dn.sp DZ),(39,Dm.sp DX),(40,By.sp D2),(41,Ff.sp AW AY BQ),(42,Bp.sp BT),(43,Df.sp CO),(44,Cd.sp D9),(45,Fe.sp BR AX BM BP),(46,Au.sp AQ),(47,Bb.sp AV),(48,Cq.sp ED)],[],[]⟩ [] 60 Tryz.f11 [.agg ⟨[.int .i64 A2,.int .i64 A3,.int .i64 A8,.int .i64 A7,.int .i64 A6,.int .i64 A9]⟩,.agg ⟨[.int .i64 A5,.int .i64 A4,.int .i64 AF,.int .i64 AE,.int .i64 AH,.int .i64 AG]⟩,.agg ⟨[.int .i64 AJ,.int .i64 AK]⟩] []=Ca.K CX D7 DZ DX D2 AW AY BQ BT CO D9 BR AX BM BP AQ AV ED A2 A3 A8 A7 A6 A9 A5 A4 AF AE AH AG AJ AK (fun r=>some (.tuple ⟨[.agg ⟨[.int .i64 r.1,.int .i64 r.2.1,.int .i64 r.2.2.1,.int .i64 r.2.2.2.1,.int .i64 r.2.2.2.2.1,.int .i64 r.2.2.2.2.2.1]⟩,.agg ⟨[.int .i64 r.2.2.2.2.2.2.1,.int .i64 r.2.2.2.2.2.2.2.1]⟩,.agg ⟨[.int .i64 r.2.2.2.2.2.2.2.2.1,.int .i64 r.2.2.2.2.2.2.2.2.2.1]⟩,.int .i64 r.2.2.2.2.2.2.2.2.2.2]⟩,[])):=by kernel_rfl
def Ca:Int×Int×Int×Int×Int×Int×Int×Int×Int×Int×Int:=Ca.K Cs Co Dn Dm By Ak As Av Bp Df Cd Bi Aq Ar Bh Au Bb Cq A2 A3 A8 A7 A6 A9 A5 A4 AF AE AH AG AJ AK id
theorem Ca.nat (k:Int×Int×Int×Int×Int×Int×Int×Int×Int×Int×Int→R):Ca.K CX D7 DZ DX D2 AW AY BQ BT CO D9 BR AX BM BP AQ AV ED A2 A3 A8 A7 A6 A9 A5 A4 AF AE AH AG AJ AK k=k (Ca.K CX D7 DZ DX D2 AW AY BQ BT CO D9 BR AX BM BP AQ AV ED A2 A3 A8 A7 A6 A9 A5 A4 AF AE AH AG AJ AK id):=by
 simp only [Ca.K,acond k,id_eq]
end
theorem beqT {a b:Int} (h:a=b):(a==b)=true:=by rw [h]; exact beq_self_eq_true b
theorem Ca.eq (a0 a1 a2 a3 a4 a5 b0 b1 b2 b3 b4 b5 r0 r1:Int):Ca a0 a1 a2 a3 a4 a5 b0 b1 b2 b3 b4 b5 r0 r1=o11 (rfc ((a0,a1),(a2,a3),(a4,a5)) ((b0,b1),(b2,b3),(b4,b5)) (r0,r1)):=by
 simp only [Ca,Ca.K,id_eq,Co.eq,Dn.eq,Dm.eq,By.eq,Cs.eq,As.eq,Av.eq,Cd.eq,Ar.eq,Aq.eq,Cq.eq,rfc,rtR,ngR,mulR,subR]
 cases hV0:VB ((a0,a1),(a2,a3),(a4,a5))&&(VB ((b0,b1),(b2,b3),(b4,b5))&&V2 (r0,r1)) with
 | false=>
  simp only [hV0,st0,kr0,st70,Eg,Cm,Cn,o7,o3,o2,o11,Ej,kp0,cond_true,cond_false,zN,Bool.not_false,Bool.false_and,Bool.and_false,Bool.true_and,Bool.and_true,bne_self_eq_false,beq_self_eq_true,if_true,if_false]
 | true=>
  rcases (RN ((a0,a1),(a2,a3),(a4,a5)) ((b0,b1),(b2,b3),(b4,b5))).cases with ⟨⟨x0,x1⟩,h0⟩|⟨e0,n0,h0⟩
  ·simp only [hV0, h0, st0,kr0,st70,Eg,Cm,Cn,o7,o3,o2,o11,Ej,kp0,cond_true,cond_false,zN,Bool.not_false,Bool.false_and,Bool.and_false,Bool.true_and,Bool.and_true,bne_self_eq_false,beq_self_eq_true,if_true,if_false]
   by_cases h1:isg x0 x1=0
   ·have g1:=beqT h1
    simp only [if_pos h1,g1,st0,kr0,st70,Eg,Cm,Cn,o7,o3,o2,o11,Ej,kp0,cond_true,cond_false,zN,Bool.not_false,Bool.false_and,Bool.and_false,Bool.true_and,Bool.and_true,bne_self_eq_false,beq_self_eq_true,if_true,if_false]
   ·have g1 := Fa h1
    simp only [if_neg h1,g1,st0,kr0,st70,Eg,Cm,Cn,o7,o3,o2,o11,Ej,kp0,cond_true,cond_false,zN,Bool.not_false,Bool.false_and,Bool.and_false,Bool.true_and,Bool.and_true,bne_self_eq_false,beq_self_eq_true,if_true,if_false]
    rcases (Sa (x0,x1) (r0,r1)).cases with ⟨⟨q0,q1⟩,h2⟩|⟨e2,n2,h2⟩
    ·simp only [h2,st0,kr0,st70,Eg,Cm,Cn,o7,o3,o2,o11,Ej,kp0,cond_true,cond_false,zN,Bool.not_false,Bool.false_and,Bool.and_false,Bool.true_and,Bool.and_true,bne_self_eq_false,beq_self_eq_true,if_true,if_false]
     by_cases h3:q0<0
     ·have g3:=decide_eq_true h3
      simp only [if_pos h3,g3,st0,kr0,st70,Eg,Cm,Cn,o7,o3,o2,o11,Ej,kp0,cond_true,cond_false,zN,Bool.not_false,Bool.false_and,Bool.and_false,Bool.true_and,Bool.and_true,bne_self_eq_false,beq_self_eq_true,if_true,if_false]
     ·have g3 :=decide_eq_false h3
      simp only [if_neg h3,g3,st0,kr0,st70,Eg,Cm,Cn,o7,o3,o2,o11,Ej,kp0,cond_true,cond_false,zN,Bool.not_false,Bool.false_and,Bool.and_false,Bool.true_and,Bool.and_true,bne_self_eq_false,beq_self_eq_true,if_true,if_false]
      by_cases h4:isg x0 x1<0
      ·have g4 :=decide_eq_true h4
       simp only [if_pos h4,g4,st0,kr0,st70,Eg,Cm,Cn,o7,o3,o2,o11,Ej,kp0,cond_true,cond_false,zN,Bool.not_false,Bool.false_and,Bool.and_false,Bool.true_and,Bool.and_true,bne_self_eq_false,beq_self_eq_true,if_true,if_false]
       rcases t3c (isr q0 q1) with ⟨s0,s1,h5⟩|⟨s0,s1,e5,n5,h5⟩
       ·simp only [h5,st0,kr0,st70,Eg,Cm,Cn,o7,o3,o2,o11,Ej,kp0,cond_true,cond_false,zN,Bool.not_false,Bool.false_and,Bool.and_false,Bool.true_and,Bool.and_true,bne_self_eq_false,beq_self_eq_true,if_true,if_false]
        rcases t3c (ineg s0 s1) with ⟨t0,t1,h6⟩|⟨t0,t1,e6,n6,h6⟩
        ·simp only [h6,st0,kr0,st70,Eg,Cm,Cn,o7,o3,o2,o11,Ej,kp0,cond_true,cond_false,zN,Bool.not_false,Bool.false_and,Bool.and_false,Bool.true_and,Bool.and_true,bne_self_eq_false,beq_self_eq_true,if_true,if_false]
         rcases (IT ((a0,a1),(a2,a3),(a4,a5)) (r0,r1)).cases with ⟨⟨⟨u0,u1⟩,⟨u2,u3⟩,⟨u4,u5⟩⟩,h7⟩|⟨e7,n7,h7⟩
         ·simp only [h7,st0,kr0,st70,Eg,Cm,Cn,o7,o3,o2,o11,Ej,kp0,cond_true,cond_false,zN,Bool.not_false,Bool.false_and,Bool.and_false,Bool.true_and,Bool.and_true,bne_self_eq_false,beq_self_eq_true,if_true,if_false]
          rcases t3c (imul r0 r1 x0 x1) with ⟨p0,p1,h8⟩|⟨p0,p1,e8,n8,h8⟩
          ·simp only [h8,st0,kr0,st70,Eg,Cm,Cn,o7,o3,o2,o11,Ej,kp0,cond_true,cond_false,zN,Bool.not_false,Bool.false_and,Bool.and_false,Bool.true_and,Bool.and_true,bne_self_eq_false,beq_self_eq_true,if_true,if_false]
           rcases t3c (isub t0 t1 p0 p1) with ⟨m0,m1,h9⟩|⟨m0,m1,e9,n9,h9⟩
           ·simp only [h9,st0,kr0,st70,Eg,Cm,Cn,o7,o3,o2,o11,Ej,kp0,cond_true,cond_false,zN,Bool.not_false,Bool.false_and,Bool.and_false,Bool.true_and,Bool.and_true,bne_self_eq_false,beq_self_eq_true,if_true,if_false]
            rcases (IT ((b0,b1),(b2,b3),(b4,b5)) (m0,m1)).cases with ⟨⟨⟨v0,v1⟩,⟨v2,v3⟩,⟨v4,v5⟩⟩,h10⟩|⟨e10,n10,h10⟩
            ·simp only [h10,st0,kr0,st70,Eg,Cm,Cn,o7,o3,o2,o11,Ej,kp0,cond_true,cond_false,zN,Bool.not_false,Bool.false_and,Bool.and_false,Bool.true_and,Bool.and_true,bne_self_eq_false,beq_self_eq_true,if_true,if_false]
             rcases (OZ ((u0,u1),(u2,u3),(u4,u5)) ((v0,v1),(v2,v3),(v4,v5))).cases with ⟨⟨⟨w0,w1⟩,⟨w2,w3⟩,⟨w4,w5⟩⟩,h11⟩|⟨e11,n11,h11⟩
             ·simp only [h11,st0,kr0,st70,Eg,Cm,Cn,o7,o3,o2,o11,Ej,kp0,cond_true,cond_false,zN,Bool.not_false,Bool.false_and,Bool.and_false,Bool.true_and,Bool.and_true,bne_self_eq_false,beq_self_eq_true,if_true,if_false]
             ·simp only [h11,stE n11,krE n11,st7E n11,GX n11,Em n11,Fa n11,kpn _ n11,st0,kr0,st70,Eg,Cm,Cn,o7,o3,o2,o11,Ej,kp0,cond_true,cond_false,zN,Bool.not_false,Bool.false_and,Bool.and_false,Bool.true_and,Bool.and_true,bne_self_eq_false,beq_self_eq_true,if_true,if_false]
            ·simp only [h10,stE n10,krE n10,st7E n10,GX n10,Em n10,Fa n10,kpn _ n10,st0,kr0,st70,Eg,Cm,Cn,o7,o3,o2,o11,Ej,kp0,cond_true,cond_false,zN,Bool.not_false,Bool.false_and,Bool.and_false,Bool.true_and,Bool.and_true,bne_self_eq_false,beq_self_eq_true,if_true,if_false]
           ·simp only [h9,stE n9,krE n9,st7E n9,GX n9,Em n9,Fa n9,kpn _ n9,st0,kr0,st70,Eg,Cm,Cn,o7,o3,o2,o11,Ej,kp0,cond_true,cond_false,zN,Bool.not_false,Bool.false_and,Bool.and_false,Bool.true_and,Bool.and_true,bne_self_eq_false,beq_self_eq_true,if_true,if_false]
          ·simp only [h8,stE n8,krE n8,st7E n8,GX n8,Em n8,Fa n8,kpn _ n8,st0,kr0,st70,Eg,Cm,Cn,o7,o3,o2,o11,Ej,kp0,cond_true,cond_false,zN,Bool.not_false,Bool.false_and,Bool.and_false,Bool.true_and,Bool.and_true,bne_self_eq_false,beq_self_eq_true,if_true,if_false]
         ·simp only [h7,stE n7,krE n7,st7E n7,GX n7,Em n7,Fa n7,kpn _ n7,st0,kr0,st70,Eg,Cm,Cn,o7,o3,o2,o11,Ej,kp0,cond_true,cond_false,zN,Bool.not_false,Bool.false_and,Bool.and_false,Bool.true_and,Bool.and_true,bne_self_eq_false,beq_self_eq_true,if_true,if_false]
        ·simp only [h6,stE n6,krE n6,st7E n6,GX n6,Em n6,Fa n6,kpn _ n6,st0,kr0,st70,Eg,Cm,Cn,o7,o3,o2,o11,Ej,kp0,cond_true,cond_false,zN,Bool.not_false,Bool.false_and,Bool.and_false,Bool.true_and,Bool.and_true,bne_self_eq_false,beq_self_eq_true,if_true,if_false]
       ·simp only [h5,stE n5,krE n5,st7E n5,GX n5,Em n5,Fa n5,kpn _ n5,st0,kr0,st70,Eg,Cm,Cn,o7,o3,o2,o11,Ej,kp0,cond_true,cond_false,zN,Bool.not_false,Bool.false_and,Bool.and_false,Bool.true_and,Bool.and_true,bne_self_eq_false,beq_self_eq_true,if_true,if_false]
      ·have g4 :=decide_eq_false h4
       simp only [if_neg h4,g4,st0,kr0,st70,Eg,Cm,Cn,o7,o3,o2,o11,Ej,kp0,cond_true,cond_false,zN,Bool.not_false,Bool.false_and,Bool.and_false,Bool.true_and,Bool.and_true,bne_self_eq_false,beq_self_eq_true,if_true,if_false]
       rcases t3c (isr q0 q1) with ⟨s0,s1,h5⟩|⟨s0,s1,e5,n5,h5⟩
       ·simp only [h5,st0,kr0,st70,Eg,Cm,Cn,o7,o3,o2,o11,Ej,kp0,cond_true,cond_false,zN,Bool.not_false,Bool.false_and,Bool.and_false,Bool.true_and,Bool.and_true,bne_self_eq_false,beq_self_eq_true,if_true,if_false]
        rcases (IT ((a0,a1),(a2,a3),(a4,a5)) (r0,r1)).cases with ⟨⟨⟨u0,u1⟩,⟨u2,u3⟩,⟨u4,u5⟩⟩,h6⟩|⟨e6,n6,h6⟩
        ·simp only [h6,st0,kr0,st70,Eg,Cm,Cn,o7,o3,o2,o11,Ej,kp0,cond_true,cond_false,zN,Bool.not_false,Bool.false_and,Bool.and_false,Bool.true_and,Bool.and_true,bne_self_eq_false,beq_self_eq_true,if_true,if_false]
         rcases t3c (imul r0 r1 x0 x1) with ⟨p0,p1,h7⟩|⟨p0,p1,e7,n7,h7⟩
         ·simp only [h7,st0,kr0,st70,Eg,Cm,Cn,o7,o3,o2,o11,Ej,kp0,cond_true,cond_false,zN,Bool.not_false,Bool.false_and,Bool.and_false,Bool.true_and,Bool.and_true,bne_self_eq_false,beq_self_eq_true,if_true,if_false]
          rcases t3c (isub s0 s1 p0 p1) with ⟨m0,m1,h8⟩|⟨m0,m1,e8,n8,h8⟩
          ·simp only [h8,st0,kr0,st70,Eg,Cm,Cn,o7,o3,o2,o11,Ej,kp0,cond_true,cond_false,zN,Bool.not_false,Bool.false_and,Bool.and_false,Bool.true_and,Bool.and_true,bne_self_eq_false,beq_self_eq_true,if_true,if_false]
           rcases (IT ((b0,b1),(b2,b3),(b4,b5)) (m0,m1)).cases with ⟨⟨⟨v0,v1⟩,⟨v2,v3⟩,⟨v4,v5⟩⟩,h9⟩|⟨e9,n9,h9⟩
           ·simp only [h9,st0,kr0,st70,Eg,Cm,Cn,o7,o3,o2,o11,Ej,kp0,cond_true,cond_false,zN,Bool.not_false,Bool.false_and,Bool.and_false,Bool.true_and,Bool.and_true,bne_self_eq_false,beq_self_eq_true,if_true,if_false]
            rcases (OZ ((u0,u1),(u2,u3),(u4,u5)) ((v0,v1),(v2,v3),(v4,v5))).cases with ⟨⟨⟨w0,w1⟩,⟨w2,w3⟩,⟨w4,w5⟩⟩,h10⟩|⟨e10,n10,h10⟩
            ·simp only [h10,st0,kr0,st70,Eg,Cm,Cn,o7,o3,o2,o11,Ej,kp0,cond_true,cond_false,zN,Bool.not_false,Bool.false_and,Bool.and_false,Bool.true_and,Bool.and_true,bne_self_eq_false,beq_self_eq_true,if_true,if_false]
            ·simp only [h10,stE n10,krE n10,st7E n10,GX n10,Em n10,Fa n10,kpn _ n10,st0,kr0,st70,Eg,Cm,Cn,o7,o3,o2,o11,Ej,kp0,cond_true,cond_false,zN,Bool.not_false,Bool.false_and,Bool.and_false,Bool.true_and,Bool.and_true,bne_self_eq_false,beq_self_eq_true,if_true,if_false]
           ·simp only [h9,stE n9,krE n9,st7E n9,GX n9,Em n9,Fa n9,kpn _ n9,st0,kr0,st70,Eg,Cm,Cn,o7,o3,o2,o11,Ej,kp0,cond_true,cond_false,zN,Bool.not_false,Bool.false_and,Bool.and_false,Bool.true_and,Bool.and_true,bne_self_eq_false,beq_self_eq_true,if_true,if_false]
          ·simp only [h8,stE n8,krE n8,st7E n8,GX n8,Em n8,Fa n8,kpn _ n8,st0,kr0,st70,Eg,Cm,Cn,o7,o3,o2,o11,Ej,kp0,cond_true,cond_false,zN,Bool.not_false,Bool.false_and,Bool.and_false,Bool.true_and,Bool.and_true,bne_self_eq_false,beq_self_eq_true,if_true,if_false]
         ·simp only [h7,stE n7,krE n7,st7E n7,GX n7,Em n7,Fa n7,kpn _ n7,st0,kr0,st70,Eg,Cm,Cn,o7,o3,o2,o11,Ej,kp0,cond_true,cond_false,zN,Bool.not_false,Bool.false_and,Bool.and_false,Bool.true_and,Bool.and_true,bne_self_eq_false,beq_self_eq_true,if_true,if_false]
        ·simp only [h6,stE n6,krE n6,st7E n6,GX n6,Em n6,Fa n6,kpn _ n6,st0,kr0,st70,Eg,Cm,Cn,o7,o3,o2,o11,Ej,kp0,cond_true,cond_false,zN,Bool.not_false,Bool.false_and,Bool.and_false,Bool.true_and,Bool.and_true,bne_self_eq_false,beq_self_eq_true,if_true,if_false]
       ·simp only [h5,stE n5,krE n5,st7E n5,GX n5,Em n5,Fa n5,kpn _ n5,st0,kr0,st70,Eg,Cm,Cn,o7,o3,o2,o11,Ej,kp0,cond_true,cond_false,zN,Bool.not_false,Bool.false_and,Bool.and_false,Bool.true_and,Bool.and_true,bne_self_eq_false,beq_self_eq_true,if_true,if_false]
    ·simp only [h2,stE n2,krE n2,st7E n2,GX n2,Em n2,Fa n2,kpn _ n2,st0,kr0,st70,Eg,Cm,Cn,o7,o3,o2,o11,Ej,kp0,cond_true,cond_false,zN,Bool.not_false,Bool.false_and,Bool.and_false,Bool.true_and,Bool.and_true,bne_self_eq_false,beq_self_eq_true,if_true,if_false]
  ·simp only [hV0,h0,stE n0,krE n0,st7E n0,GX n0,Em n0,Fa n0,kpn _ n0,st0,kr0,st70,Eg,Cm,Cn,o7,o3,o2,o11,Ej,kp0,cond_true,cond_false,zN,Bool.not_false,Bool.false_and,Bool.and_false,Bool.true_and,Bool.and_true,bne_self_eq_false,beq_self_eq_true,if_true,if_false]
theorem Ca.ok:SOK Tryz.prog 11 (Ca.sp Ca):=by
 refine Cu (E:=⟨[(36,Cs.sp Cs),(37,Co.sp Co),(38,Dn.sp Dn),(39,Dm.sp Dm),(40,By.sp By),(41,Ff.sp Ak As Av),(42,Bp.sp Bp),(43,Df.sp Df),(44,Cd.sp Cd),(45,Fe.sp Bi Aq Ar Bh),(46,Au.sp Au),(47,Bb.sp Bb),(48,Cq.sp Cq)],[],[]⟩) (L:=[]) ⟨(Aa Cs.ok (Aa Co.ok (Aa Dn.ok (Aa Dm.ok (Aa By.ok (Aa Ff.ok (Aa Bp.ok (Aa Df.ok (Aa Cd.ok (Aa Fe.ok (Aa Au.ok (Aa Bb.ok (Aa Cq.ok Ac))))))))))))),Ai,Ad,Ah⟩ 60 Tryz.func11 (by decide) rfl Bv fun vs bl v bl' h=> ?_
 unfold Ca.sp at h
 split at h
 ·rename_i A2 A3 A8 A7 A6 A9 A5 A4 AF AE AH AG AJ AK
  simp only [zS,zP,true_and] at h
  obtain ⟨rfl,rfl⟩:=h
  refine ⟨?_,by simp [okV,Nat.blt],clo_spec 8 _ (by kernel_rfl),Ay (by kernel_rfl)⟩
  refine (Ca.run Cs Co Dn Dm By Ak As Av Bp Df Cd Bi Aq Ar Bh Au Bb Cq A2 A3 A8 A7 A6 A9 A5 A4 AF AE AH AG AJ AK).trans ?_
  refine (Ca.nat Cs Co Dn Dm By Ak As Av Bp Df Cd Bi Aq Ar Bh Au Bb Cq A2 A3 A8 A7 A6 A9 A5 A4 AF AE AH AG AJ AK _).trans ?_
  kernel_rfl
 ·cases h
def Ex.K {R:Type} (a0:Int) (k:Int×Int×Int→R):R:=
 bif decide (a0>64) then k (0,0,3) else bif decide (a0< -64) then k (0,0,3) else k (i64.wrap (a0*16777216),i64.wrap (a0*16777216),0)
theorem Ex.run (a0:Int):xfn Tryz.prog ⟨[],[],[]⟩ [] 60 Tryz.f15 [.int .i64 a0] []=Ex.K a0 (fun r=>some (.tuple ⟨[.agg ⟨[.int .i64 r.1,.int .i64 r.2.1]⟩,.int .i64 r.2.2]⟩,[])):=by kernel_rfl
def Ex (a0:Int):Int×Int×Int:=Ex.K a0 id
theorem Ex.nat {R:Type} (a0:Int) (k:Int×Int×Int→R):Ex.K a0 k=k (Ex.K a0 id):=by
 simp only [Ex.K,acond k,id_eq]
theorem Ex.ok:SOK Tryz.prog 15 (Ex.sp Ex):=by
 refine Cu (E:=⟨[],[],[]⟩) (L:=[]) ⟨Ac,Ai,Ad,Ah⟩ 60 Tryz.func15 (by decide) rfl Bv fun vs bl v bl' h=> ?_
 unfold Ex.sp at h
 split at h
 ·rename_i a0
  simp only [zS,zP,true_and] at h
  obtain ⟨rfl,rfl⟩:=h
  refine ⟨?_,by simp [okV,Nat.blt],clo_spec 8 _ (by kernel_rfl),Ay (by kernel_rfl)⟩
  refine (Ex.run a0).trans ?_
  refine (Ex.nat a0 _).trans ?_
  kernel_rfl
 ·cases h
section
variable {R:Type} (AI:Int→Int→(Bool)) (DX:Int→Int→(Int)) (A2:Int) (A3:Int)
def Dy.K (k:(Int)→R):R:=
 let t0:=AI A2 A3
 bif !t0 then k (0) else
 let t1:=DX A2 A3
 bif t1== -1 then k (1) else bif t1==1 then k (2) else k (3)
theorem Dy.run:xfn Tryz.prog ⟨[(21,Ab.sp AI),(39,Dm.sp DX)],[],[]⟩ [] 60 Tryz.f52 [.agg ⟨[.int .i64 A2,.int .i64 A3]⟩] []=Dy.K AI DX A2 A3 (fun r=>some (.int .i64 r,[])):=by kernel_rfl
def Dy:Int:=Dy.K Ab Dm A2 A3 id
theorem Dy.nat (k:(Int)→R):Dy.K AI DX A2 A3 k=k (Dy.K AI DX A2 A3 id):=by
 simp only [Dy.K,acond k,id_eq]
end
theorem Dy.ok:SOK Tryz.prog 52 (Dy.sp Dy):=by
 refine Cu (E:=⟨[(21,Ab.sp Ab),(39,Dm.sp Dm)],[],[]⟩) (L:=[]) ⟨(Aa Ab.ok (Aa Dm.ok Ac)),Ai,Ad,Ah⟩ 60 Tryz.func52 (by decide) rfl Bv fun vs bl v bl' h=> ?_
 unfold Dy.sp at h
 split at h
 ·rename_i A2 A3
  simp only [zS,zP,true_and] at h
  obtain ⟨rfl,rfl⟩:=h
  refine ⟨?_,by simp [okV,Nat.blt],clo_spec 8 _ (by kernel_rfl),Ay (by kernel_rfl)⟩
  refine (Dy.run Ab Dm A2 A3).trans ?_
  refine (Dy.nat Ab Dm A2 A3 _).trans ?_
  kernel_rfl
 ·cases h
section
variable {R:Type} (D7:Int→Int→Int→Int→Int→Int→Int→Int→Int→Int→Int→Int→Int→Int→(Bool)) (DZ:Int→Int→Int→Int→Int→Int→Int→Int→Int→Int→Int→Int→(Int×Int×Int)) (D2:Int→Int→Int→Int→(Int×Int×Int)) (F1:Int→Int→(Int)) (A2:Int) (A3:Int) (A8:Int) (A7:Int) (A6:Int) (A9:Int) (A5:Int) (A4:Int) (AF:Int) (AE:Int) (AH:Int) (AG:Int) (AJ:Int) (AK:Int)
def Ek.K (k:Int×Int→R):R:=
 let t0:=D7 A2 A3 A8 A7 A6 A9 A5 A4 AF AE AH AG AJ AK
 bif !t0 then k (0,1) else
 let t1:=DZ A2 A3 A8 A7 A6 A9 A5 A4 AF AE AH AG
 bif t1.2.2 !=0 then k (0,t1.2.2) else
 let t2:=D2 t1.1 t1.2.1 AJ AK
 bif t2.2.2 !=0 then k (0,t2.2.2) else
 let t3:=F1 t2.1 t2.2.1
 k (t3,0)
theorem Ek.run:xfn Tryz.prog ⟨[(37,Co.sp D7),(38,Dn.sp DZ),(40,By.sp D2),(52,Dy.sp F1)],[],[]⟩ [] 60 Tryz.f16 [.agg ⟨[.int .i64 A2,.int .i64 A3,.int .i64 A8,.int .i64 A7,.int .i64 A6,.int .i64 A9]⟩,.agg ⟨[.int .i64 A5,.int .i64 A4,.int .i64 AF,.int .i64 AE,.int .i64 AH,.int .i64 AG]⟩,.agg ⟨[.int .i64 AJ,.int .i64 AK]⟩] []=Ek.K D7 DZ D2 F1 A2 A3 A8 A7 A6 A9 A5 A4 AF AE AH AG AJ AK (fun r=>some (.tuple ⟨[.int .i64 r.1,.int .i64 r.2]⟩,[])):=by kernel_rfl
def Ek:Int×Int:=Ek.K Co Dn By Dy A2 A3 A8 A7 A6 A9 A5 A4 AF AE AH AG AJ AK id
theorem Ek.nat (k:Int×Int→R):Ek.K D7 DZ D2 F1 A2 A3 A8 A7 A6 A9 A5 A4 AF AE AH AG AJ AK k=k (Ek.K D7 DZ D2 F1 A2 A3 A8 A7 A6 A9 A5 A4 AF AE AH AG AJ AK id):=by
 simp only [Ek.K,acond k,id_eq]
end
theorem Ek.ok:SOK Tryz.prog 16 (Ek.sp Ek):=by
 refine Cu (E:=⟨[(37,Co.sp Co),(38,Dn.sp Dn),(40,By.sp By),(52,Dy.sp Dy)],[],[]⟩) (L:=[]) ⟨(Aa Co.ok (Aa Dn.ok (Aa By.ok (Aa Dy.ok Ac)))),Ai,Ad,Ah⟩ 60 Tryz.func16 (by decide) rfl Bv fun vs bl v bl' h=> ?_
 unfold Ek.sp at h
 split at h
 ·rename_i A2 A3 A8 A7 A6 A9 A5 A4 AF AE AH AG AJ AK
  simp only [zS,zP,true_and] at h
  obtain ⟨rfl,rfl⟩:=h
  refine ⟨?_,by simp [okV,Nat.blt],clo_spec 8 _ (by kernel_rfl),Ay (by kernel_rfl)⟩
  refine (Ek.run Co Dn By Dy A2 A3 A8 A7 A6 A9 A5 A4 AF AE AH AG AJ AK).trans ?_
  refine (Ek.nat Co Dn By Dy A2 A3 A8 A7 A6 A9 A5 A4 AF AE AH AG AJ AK _).trans ?_
  kernel_rfl
 ·cases h
def Dk.K {R:Type} (k:Int×Int→R):R:=
 k (16777216,16777216)
theorem Dk.run:xfn Tryz.prog ⟨[],[],[]⟩ [] 60 Tryz.f10 [] []=Dk.K (fun r=>some (.agg ⟨[.int .i64 r.1,.int .i64 r.2]⟩,[])):=by kernel_rfl
def Dk:Int×Int:=Dk.K id
theorem Dk.nat {R:Type} (k:Int×Int→R):Dk.K k=k (Dk.K id):=by
 simp only [Dk.K,acond k,id_eq]
theorem Dk.eq:Dk=(16777216,16777216):=rfl
theorem Dk.ok:SOK Tryz.prog 10 (Dk.sp Dk):=by
 refine Cu (E:=⟨[],[],[]⟩) (L:=[]) ⟨Ac,Ai,Ad,Ah⟩ 60 Tryz.func10 (by decide) rfl Bv fun vs bl v bl' h=> ?_
 unfold Dk.sp at h
 split at h
 ·simp only [zS,zP,true_and] at h
  obtain ⟨rfl,rfl⟩:=h
  refine ⟨?_,by simp [okV,Nat.blt],clo_spec 8 _ (by kernel_rfl),Ay (by kernel_rfl)⟩
  refine (Dk.run).trans ?_
  refine (Dk.nat _).trans ?_
  kernel_rfl
 ·cases h
def Ey.K {R:Type} (D3:(Int×Int)) (k:Int×Int×Int×Int×Int×Int→R):R:=
 k (0,0,0,0,D3.fst,D3.snd)
theorem Ey.run (D3:(Int×Int)):xfn Tryz.prog ⟨[(10,Dk.sp D3)],[],[]⟩ [] 60 Tryz.f17 [] []=Ey.K D3 (fun r=>some (.agg ⟨[.int .i64 r.1,.int .i64 r.2.1,.int .i64 r.2.2.1,.int .i64 r.2.2.2.1,.int .i64 r.2.2.2.2.1,.int .i64 r.2.2.2.2.2]⟩,[])):=by kernel_rfl
def Ey:Int×Int×Int×Int×Int×Int:=Ey.K Dk id
theorem Ey.nat {R:Type} (D3:(Int×Int)) (k:Int×Int×Int×Int×Int×Int→R):Ey.K D3 k=k (Ey.K D3 id):=by
 simp only [Ey.K,acond k,id_eq]
theorem Ey.ok:SOK Tryz.prog 17 (Ey.sp Ey):=by
 refine Cu (E:=⟨[(10,Dk.sp Dk)],[],[]⟩) (L:=[]) ⟨(Aa Dk.ok Ac),Ai,Ad,Ah⟩ 60 Tryz.func17 (by decide) rfl Bv fun vs bl v bl' h=> ?_
 unfold Ey.sp at h
 split at h
 ·simp only [zS,zP,true_and] at h
  obtain ⟨rfl,rfl⟩:=h
  refine ⟨?_,by simp [okV,Nat.blt],clo_spec 8 _ (by kernel_rfl),Ay (by kernel_rfl)⟩
  refine (Ey.run Dk).trans ?_
  refine (Ey.nat Dk _).trans ?_
  kernel_rfl
 ·cases h
section
variable {R:Type} (AI:Int→Int→(Bool)) (BN:Int→Int→(Int×Int×Int)) (AW:Int→Int→Int→(Int×Int×Int)) (AY:Int→Int→Int→(Int×Int×Int)) (BQ:Int→Int→Int→(Int×Int×Int)) (BT:Int→Int→(Int×Int×Int)) (BR:Int→Int→Int→Int→Int→(Int×Int×Int)) (AX:Int→Int→Int→Int→Int→(Int×Int×Int)) (BM:Int→Int→Int→Int→Int→(Int×Int×Int)) (BP:Int→Int→Int→Int→Int→(Int×Int×Int)) (AQ:Int→Int→Int→Int→(Int×Int×Int)) (CQ:(Int×Int)) (BL:Int→Int→Int→Int→(Int×Int×Int)) (A2:Int) (A3:Int)
def Dl.K {R:Type} (AI:Int→Int→(Bool)) (BN:Int→Int→(Int×Int×Int)) (AW:Int→Int→Int→(Int×Int×Int)) (AY:Int→Int→Int→(Int×Int×Int)) (BQ:Int→Int→Int→(Int×Int×Int)) (BT:Int→Int→(Int×Int×Int)) (BR:Int→Int→Int→Int→Int→(Int×Int×Int)) (AX:Int→Int→Int→Int→Int→(Int×Int×Int)) (BM:Int→Int→Int→Int→Int→(Int×Int×Int)) (BP:Int→Int→Int→Int→Int→(Int×Int×Int)) (AQ:Int→Int→Int→Int→(Int×Int×Int)) (CQ:(Int×Int)) (BL:Int→Int→Int→Int→(Int×Int×Int)) (A2:Int) (A3:Int) (k:Int×Int×Int→R):R:=
 let t0:=AI A2 A3
 bif !t0 then k (0,0,1) else bif decide (A2<16777216) then k (0,0,2) else
 let t1:=AW 0 A2 A3
 let t2:=BP t1.2.2 CQ.fst CQ.snd t1.1 t1.2.1
 let t3:=AX t2.2.2 CQ.fst CQ.snd t2.1 t2.2.1
 let t4:=AY t3.2.2 t3.1 t3.2.1
 bif t4.2.2 !=0 then k (0,0,t4.2.2) else k (t4.1,t4.2.1,0)
theorem Dl.run:xfn Tryz.prog ⟨[(21,Ab.sp AI),(23,At.sp BN),(41,Ff.sp AW AY BQ),(42,Bp.sp BT),(45,Fe.sp BR AX BM BP),(46,Au.sp AQ),(53,Dg.sp CQ),(54,Aw.sp BL)],[],[]⟩ [] 60 Tryz.f18 [.agg ⟨[.int .i64 A2,.int .i64 A3]⟩] []=Dl.K AI BN AW AY BQ BT BR AX BM BP AQ CQ BL A2 A3 (fun r=>some (.tuple ⟨[.agg ⟨[.int .i64 r.1,.int .i64 r.2.1]⟩,.int .i64 r.2.2]⟩,[])):=by kernel_rfl
def Dl:Int×Int×Int:=Dl.K Ab At Ak As Av Bp Bi Aq Ar Bh Au Dg Aw A2 A3 id
theorem Dl.nat (k:Int×Int×Int→R):Dl.K AI BN AW AY BQ BT BR AX BM BP AQ CQ BL A2 A3 k=k (Dl.K AI BN AW AY BQ BT BR AX BM BP AQ CQ BL A2 A3 id):=by
 simp only [Dl.K,acond k,id_eq]
end
theorem Dl.ok:SOK Tryz.prog 18 (Dl.sp Dl):=by
 refine Cu (E:=⟨[(21,Ab.sp Ab),(23,At.sp At),(41,Ff.sp Ak As Av),(42,Bp.sp Bp),(45,Fe.sp Bi Aq Ar Bh),(46,Au.sp Au),(53,Dg.sp Dg),(54,Aw.sp Aw)],[],[]⟩) (L:=[]) ⟨(Aa Ab.ok (Aa At.ok (Aa Ff.ok (Aa Bp.ok (Aa Fe.ok (Aa Au.ok (Aa Dg.ok (Aa Aw.ok Ac)))))))),Ai,Ad,Ah⟩ 60 Tryz.func18 (by decide) rfl Bv fun vs bl v bl' h=> ?_
 unfold Dl.sp at h
 split at h
 ·rename_i A2 A3
  simp only [zS,zP,true_and] at h
  obtain ⟨rfl,rfl⟩:=h
  refine ⟨?_,by simp [okV,Nat.blt],clo_spec 8 _ (by kernel_rfl),Ay (by kernel_rfl)⟩
  refine (Dl.run Ab At Ak As Av Bp Bi Aq Ar Bh Au Dg Aw A2 A3).trans ?_
  refine (Dl.nat Ab At Ak As Av Bp Bi Aq Ar Bh Au Dg Aw A2 A3 _).trans ?_
  kernel_rfl
 ·cases h
section
variable {R:Type} (D1:Int→Int→Int→Int→Int→Int→Int→Int→Int→Int→Int→Int→Int→Int→(Int×Int×Int×Int×Int×Int×Int×Int×Int×Int×Int)) (FC:Int→(Int×Int×Int)) (F0:Int→Int→Int→Int→Int→Int→Int→Int→Int→Int→Int→Int→Int→Int→(Int×Int)) (BU:(Int×Int×Int×Int×Int×Int)) (EP:Int→Int→(Int×Int×Int))
def Eb.K (k:(Bool)→R):R:=
 let t0:=FC 2
 let t1:=F0 BU.fst BU.snd.fst BU.snd.snd.fst BU.snd.snd.snd.fst BU.snd.snd.snd.snd.fst BU.snd.snd.snd.snd.snd BU.fst BU.snd.fst BU.snd.snd.fst BU.snd.snd.snd.fst BU.snd.snd.snd.snd.fst BU.snd.snd.snd.snd.snd t0.1 t0.2.1
 bif t1.2==0 then
 let t2:=D1 BU.fst BU.snd.fst BU.snd.snd.fst BU.snd.snd.snd.fst BU.snd.snd.snd.snd.fst BU.snd.snd.snd.snd.snd BU.fst BU.snd.fst BU.snd.snd.fst BU.snd.snd.snd.fst BU.snd.snd.snd.snd.fst BU.snd.snd.snd.snd.snd t0.1 t0.2.1
 bif t2.2.2.2.2.2.2.2.2.2.2==0 then
 let t3:=EP t0.1 t0.2.1
 bif t3.2.2==0 then bif t1.1==2 then bif t2.1==BU.fst&&t2.2.1==BU.snd.fst&&(t2.2.2.1==BU.snd.snd.fst&&t2.2.2.2.1==BU.snd.snd.snd.fst&&(t2.2.2.2.2.1==BU.snd.snd.snd.snd.fst&&t2.2.2.2.2.2.1==BU.snd.snd.snd.snd.snd)) then bif t3.1==14529495 then k (t3.2.1==14529496) else k (false) else k (false) else k (false) else k (false) else k (false) else k (false)
theorem Eb.run:xfn Tryz.prog ⟨[(11,Ca.sp D1),(15,Ex.sp FC),(16,Ek.sp F0),(17,Ey.sp BU),(18,Dl.sp EP)],[],[]⟩ [] 60 Tryz.f5 [] []=Eb.K D1 FC F0 BU EP (fun r=>some (.bool r,[])):=by kernel_rfl
end
def Eb:Bool:=Eb.K Ca Ex Ek Ey Dl id
theorem Eb.nat {R:Type} (D1:Int→Int→Int→Int→Int→Int→Int→Int→Int→Int→Int→Int→Int→Int→(Int×Int×Int×Int×Int×Int×Int×Int×Int×Int×Int)) (FC:Int→(Int×Int×Int)) (F0:Int→Int→Int→Int→Int→Int→Int→Int→Int→Int→Int→Int→Int→Int→(Int×Int)) (BU:(Int×Int×Int×Int×Int×Int)) (EP:Int→Int→(Int×Int×Int)) (k:(Bool)→R):Eb.K D1 FC F0 BU EP k=k (Eb.K D1 FC F0 BU EP id):=by
 simp only [Eb.K,acond k,id_eq]
theorem QR:Eb=true:=by kernel_rfl
theorem Eb.ok:SOK Tryz.prog 5 (Eb.sp Eb):=by
 refine Cu (E:=⟨[(11,Ca.sp Ca),(15,Ex.sp Ex),(16,Ek.sp Ek),(17,Ey.sp Ey),(18,Dl.sp Dl)],[],[]⟩) (L:=[]) ⟨(Aa Ca.ok (Aa Ex.ok (Aa Ek.ok (Aa Ey.ok (Aa Dl.ok Ac))))),Ai,Ad,Ah⟩ 60 Tryz.func5 (by decide) rfl Bv fun vs bl v bl' h=> ?_
 unfold Eb.sp at h
 split at h
 ·simp only [zS,zP,true_and] at h
  obtain ⟨rfl,rfl⟩:=h
  refine ⟨?_,by simp [okV,Nat.blt],clo_spec 8 _ (by kernel_rfl),Ay (by kernel_rfl)⟩
  refine (Eb.run Ca Ex Ek Ey Dl).trans ?_
  refine (Eb.nat Ca Ex Ek Ey Dl _).trans ?_
  kernel_rfl
 ·cases h
section
variable {R:Type} (ER:TF5 (Bool)) (EQ:TF5 Bool) (F7:TF20 (Bool)) (F3:TF20 Bool) (A2:Bool) (A3:ByteArray) (A8:Bool) (A7:ByteArray) (A6:Bool) (A9:ByteArray) (AB:Bool) (AA:ByteArray) (AD:Bool) (AC:ByteArray) (BK:Bool) (BJ:ByteArray) (BI:Bool) (BH:ByteArray) (BG:Bool) (BF:ByteArray) (BE:Bool) (BD:ByteArray) (BC:Bool) (BB:ByteArray) (BA:Bool) (B9:ByteArray) (B8:Bool) (B7:ByteArray) (B6:Bool) (B5:ByteArray) (B4:Bool) (B3:ByteArray) (B2:Bool) (AZ:ByteArray) (CJ:Bool) (CI:ByteArray) (CH:Bool) (CG:ByteArray) (CF:Bool) (CE:ByteArray) (CD:Bool) (CC:ByteArray) (CB:Bool) (CA:ByteArray)
noncomputable def Ci.K (k:(Bool)→Option R):Option R:=
 let t0:=EQ A2 A3 A8 A7 A6 A9 AB AA AD AC
 bif t0 then
 let t1:=ER A2 A3 A8 A7 A6 A9 AB AA AD AC
 bif t1 then
 let t2:=EQ BK BJ BI BH BG BF BE BD BC BB
 bif t2 then
 let t3:=ER BK BJ BI BH BG BF BE BD BC BB
 bif t3 then
 let t4:=EQ BA B9 B8 B7 B6 B5 B4 B3 B2 AZ
 bif t4 then
 let t5:=ER BA B9 B8 B7 B6 B5 B4 B3 B2 AZ
 bif t5 then
 let t6:=EQ CJ CI CH CG CF CE CD CC CB CA
 bif t6 then
 let t7:=ER CJ CI CH CG CF CE CD CC CB CA
 bif t7 then
 let t8:=F3 A2 A3 A8 A7 A6 A9 AB AA AD AC BK BJ BI BH BG BF BE BD BC BB BA B9 B8 B7 B6 B5 B4 B3 B2 AZ CJ CI CH CG CF CE CD CC CB CA
 bif t8 then
 let t9:=F7 A2 A3 A8 A7 A6 A9 AB AA AD AC BK BJ BI BH BG BF BE BD BC BB BA B9 B8 B7 B6 B5 B4 B3 B2 AZ CJ CI CH CG CF CE CD CC CB CA
 k (t9) else none else k (false) else none else k (false) else none else k (false) else none else k (false) else none
theorem Ci.run:xfn Tryz.prog ⟨[(19,Bu.sp ER EQ),(20,Bn.sp F7 F3)],[],[]⟩ [] 60 Tryz.f6 [.agg ⟨.bool A2:: .string A3:: .bool A8:: .string A7:: .bool A6:: .string A9:: .bool AB:: .string AA:: .bool AD:: .string AC:: .bool BK:: .string BJ:: .bool BI:: .string BH:: .bool BG:: .string BF:: .bool BE:: .string BD:: .bool BC:: .string BB:: .bool BA:: .string B9:: .bool B8:: .string B7:: .bool B6:: .string B5:: .bool B4:: .string B3:: .bool B2:: .string AZ:: .bool CJ:: .string CI:: .bool CH:: .string CG:: .bool CF:: .string CE:: .bool CD:: .string CC:: .bool CB:: .string CA::[]⟩] []=Ci.K ER EQ F7 F3 A2 A3 A8 A7 A6 A9 AB AA AD AC BK BJ BI BH BG BF BE BD BC BB BA B9 B8 B7 B6 B5 B4 B3 B2 AZ CJ CI CH CG CF CE CD CC CB CA (fun r=>some (.bool r,[])):=by kernel_rfl
noncomputable def Ci.o:Option (Bool):=Ci.K Bu Bu.pre Bn Bn.pre A2 A3 A8 A7 A6 A9 AB AA AD AC BK BJ BI BH BG BF BE BD BC BB BA B9 B8 B7 B6 B5 B4 B3 B2 AZ CJ CI CH CG CF CE CD CC CB CA some
noncomputable def Ci.pre:Bool:=(Ci.o A2 A3 A8 A7 A6 A9 AB AA AD AC BK BJ BI BH BG BF BE BD BC BB BA B9 B8 B7 B6 B5 B4 B3 B2 AZ CJ CI CH CG CF CE CD CC CB CA).isSome
noncomputable def Ci:Bool:=(Ci.o A2 A3 A8 A7 A6 A9 AB AA AD AC BK BJ BI BH BG BF BE BD BC BB BA B9 B8 B7 B6 B5 B4 B3 B2 AZ CJ CI CH CG CF CE CD CC CB CA).getD default
theorem Ci.nat (k:(Bool)→Option R):Ci.K ER EQ F7 F3 A2 A3 A8 A7 A6 A9 AB AA AD AC BK BJ BI BH BG BF BE BD BC BB BA B9 B8 B7 B6 B5 B4 B3 B2 AZ CJ CI CH CG CF CE CD CC CB CA k=(Ci.K ER EQ F7 F3 A2 A3 A8 A7 A6 A9 AB AA AD AC BK BJ BI BH BG BF BE BD BC BB BA B9 B8 B7 B6 B5 B4 B3 B2 AZ CJ CI CH CG CF CE CD CC CB CA some).bind k:=by
 simp only [Ci.K,bcond,Option.bind_some,Option.bind_none]
end
theorem RF {m:Nat} {q:Q} (h:q.Le m) (hm:m≤65535):q.Bd 2:=by
 have e:p8 2=65536:=by decide
 have k:∀ {c:Int},c.natAbs≤m→Bd 2 c:=fun h=>by unfold Bd; omega
 exact ⟨k h.c0,k h.c1,k h.c2,k h.c3,k h.d⟩
theorem Ci.spec (n0:Bool) (s0:ByteArray) (n1:Bool) (s1:ByteArray) (n2:Bool) (s2:ByteArray) (n3:Bool) (s3:ByteArray) (n4:Bool) (s4:ByteArray) (n5:Bool) (s5:ByteArray) (n6:Bool) (s6:ByteArray) (n7:Bool) (s7:ByteArray) (n8:Bool) (s8:ByteArray) (n9:Bool) (s9:ByteArray) (n10:Bool) (s10:ByteArray) (n11:Bool) (s11:ByteArray) (n12:Bool) (s12:ByteArray) (n13:Bool) (s13:ByteArray) (n14:Bool) (s14:ByteArray) (n15:Bool) (s15:ByteArray) (n16:Bool) (s16:ByteArray) (n17:Bool) (s17:ByteArray) (n18:Bool) (s18:ByteArray) (n19:Bool) (s19:ByteArray) (z0:s0.size≤8589934592) (z1:s1.size≤8589934592) (z2:s2.size≤8589934592) (z3:s3.size≤8589934592) (z4:s4.size≤8589934592) (z5:s5.size≤8589934592) (z6:s6.size≤8589934592) (z7:s7.size≤8589934592) (z8:s8.size≤8589934592) (z9:s9.size≤8589934592) (z10:s10.size≤8589934592) (z11:s11.size≤8589934592) (z12:s12.size≤8589934592) (z13:s13.size≤8589934592) (z14:s14.size≤8589934592) (z15:s15.size≤8589934592) (z16:s16.size≤8589934592) (z17:s17.size≤8589934592) (z18:s18.size≤8589934592) (z19:s19.size≤8589934592):∃b,Ci.o n0 s0 n1 s1 n2 s2 n3 s3 n4 s4 n5 s5 n6 s6 n7 s7 n8 s8 n9 s9 n10 s10 n11 s11 n12 s12 n13 s13 n14 s14 n15 s15 n16 s16 n17 s17 n18 s18 n19 s19=some b∧(b=true→∃x y z q:Q,(n0,s0,n1,s1,n2,s2,n3,s3,n4,s4)=C5 x∧(n5,s5,n6,s6,n7,s7,n8,s8,n9,s9)=C5 y∧(n10,s10,n11,s11,n12,s12,n13,s13,n14,s14)=C5 z∧(n15,s15,n16,s16,n17,s17,n18,s18,n19,s19)=C5 q∧x.ok=true∧y.ok=true∧z.ok=true∧q.ok=true∧x.Bd 2∧y.Bd 2∧z.Bd 2∧q.Bd 2∧(x.nul&&(y.nul&&z.nul))=false):=by
 obtain ⟨b0,e0,f0⟩:=Bu.spec (n0:=n0) (n1:=n1) (n2:=n2) (n3:=n3) (n4:=n4) z0 z1 z2 z3 z4
 obtain ⟨b1,e1,f1⟩:=Bu.spec (n0:=n5) (n1:=n6) (n2:=n7) (n3:=n8) (n4:=n9) z5 z6 z7 z8 z9
 obtain ⟨b2,e2,f2⟩:=Bu.spec (n0:=n10) (n1:=n11) (n2:=n12) (n3:=n13) (n4:=n14) z10 z11 z12 z13 z14
 obtain ⟨b3,e3,f3⟩:=Bu.spec (n0:=n15) (n1:=n16) (n2:=n17) (n3:=n18) (n4:=n19) z15 z16 z17 z18 z19
 have fp:∀ {b:Bool} {o:Option Bool},o=some b→o.isSome=true∧o.getD default=b:=fun h=>by rw [h]; exact ⟨rfl,rfl⟩
 have p0:Bu.pre n0 s0 n1 s1 n2 s2 n3 s3 n4 s4=true:=(fp e0).1
 have v0:Bu n0 s0 n1 s1 n2 s2 n3 s3 n4 s4=b0:=(fp e0).2
 have p1:Bu.pre n5 s5 n6 s6 n7 s7 n8 s8 n9 s9=true:=(fp e1).1
 have v1:Bu n5 s5 n6 s6 n7 s7 n8 s8 n9 s9=b1:=(fp e1).2
 have p2:Bu.pre n10 s10 n11 s11 n12 s12 n13 s13 n14 s14=true:=(fp e2).1
 have v2:Bu n10 s10 n11 s11 n12 s12 n13 s13 n14 s14=b2:=(fp e2).2
 have p3:Bu.pre n15 s15 n16 s16 n17 s17 n18 s18 n19 s19=true:=(fp e3).1
 have v3:Bu n15 s15 n16 s16 n17 s17 n18 s18 n19 s19=b3:=(fp e3).2
 simp only [Ci.o,Ci.K,p0,p1,p2,p3,v0,v1,v2,v3,cond_true]
 cases b0 with
 |false=>exact ⟨false,rfl,fun h=>by cases h⟩
 |true=>
 cases b1 with
 |false=>exact ⟨false,rfl,fun h=>by cases h⟩
 |true=>
 cases b2 with
 |false=>exact ⟨false,rfl,fun h=>by cases h⟩
 |true=>
 cases b3 with
 |false=>exact ⟨false,rfl,fun h=>by cases h⟩
 |true=>
 obtain ⟨x,ex,ox,_,x4,x0,x1,x2,x3⟩:=f0 rfl
 obtain ⟨y,ey,oy,_,y4,y0,y1,y2,y3⟩:=f1 rfl
 obtain ⟨z,ez,oz,_,v4',v0',v1',v2',v3'⟩:=f2 rfl
 obtain ⟨q,eq,oq,_,q4,q0,q1,q2,q3⟩:=f3 rfl
 simp only [C5,zP] at ex ey ez eq
 obtain ⟨rfl,rfl,rfl,rfl,rfl,rfl,rfl,rfl,rfl,rfl⟩:=ex
 obtain ⟨rfl,rfl,rfl,rfl,rfl,rfl,rfl,rfl,rfl,rfl⟩:=ey
 obtain ⟨rfl,rfl,rfl,rfl,rfl,rfl,rfl,rfl,rfl,rfl⟩:=ez
 obtain ⟨rfl,rfl,rfl,rfl,rfl,rfl,rfl,rfl,rfl,rfl⟩:=eq
 have lx:x.Le 400:=⟨x0,x1,x2,x3,x4⟩
 have ly:y.Le 400:=⟨y0,y1,y2,y3,y4⟩
 have lz:z.Le 400:=⟨v0',v1',v2',v3',v4'⟩
 have lq:q.Le 400:=⟨q0,q1,q2,q3,q4⟩
 have w:∀ {u:Q},u.Le 400→u.Le 16777215:=fun h=>h.mono (by decide)
 simp only [Bn.ps (w lx) (w ly) (w lz) (w lq) ox oy oz oq,Bn.es (w lx) (w ly) (w lz) (w lq) ox oy oz oq,cond_true]
 exact ⟨_,rfl,fun h=>⟨x,y,z,q,rfl,rfl,rfl,rfl,ox,oy,oz,oq,RF lx (by decide),RF ly (by decide),RF lz (by decide),RF lq (by decide),by revert h; cases x.nul<;>cases y.nul<;>cases z.nul<;>simp⟩⟩
theorem Ci.ok:SOK Tryz.prog 6 (Ci.sp Ci Ci.pre):=by
 refine Cu (E:=⟨[(19,Bu.sp Bu Bu.pre),(20,Bn.sp Bn Bn.pre)],[],[]⟩) (L:=[]) ⟨(Aa Bu.ok (Aa Bn.ok Ac)),Ai,Ad,Ah⟩ 60 Tryz.func6 (by decide) rfl Bv fun vs bl v bl' h=> ?_
 unfold Ci.sp at h
 split at h
 ·rename_i A2 A3 A8 A7 A6 A9 AB AA AD AC BK BJ BI BH BG BF BE BD BC BB BA B9 B8 B7 B6 B5 B4 B3 B2 AZ CJ CI CH CG CF CE CD CC CB CA
  simp only [zS,zP] at h
  obtain ⟨hp,rfl,rfl⟩:=h
  have hr:=Ci.run Bu Bu.pre Bn Bn.pre A2 A3 A8 A7 A6 A9 AB AA AD AC BK BJ BI BH BG BF BE BD BC BB BA B9 B8 B7 B6 B5 B4 B3 B2 AZ CJ CI CH CG CF CE CD CC CB CA
  rw [Ci.nat] at hr
  obtain ⟨r,h2⟩:=Option.isSome_iff_exists.1 (hp:(Ci.o A2 A3 A8 A7 A6 A9 AB AA AD AC BK BJ BI BH BG BF BE BD BC BB BA B9 B8 B7 B6 B5 B4 B3 B2 AZ CJ CI CH CG CF CE CD CC CB CA).isSome=true)
  have h3:Ci A2 A3 A8 A7 A6 A9 AB AA AD AC BK BJ BI BH BG BF BE BD BC BB BA B9 B8 B7 B6 B5 B4 B3 B2 AZ CJ CI CH CG CF CE CD CC CB CA=r:=by unfold Ci; rw [h2]; rfl
  have h4:Ci.K Bu Bu.pre Bn Bn.pre A2 A3 A8 A7 A6 A9 AB AA AD AC BK BJ BI BH BG BF BE BD BC BB BA B9 B8 B7 B6 B5 B4 B3 B2 AZ CJ CI CH CG CF CE CD CC CB CA some=some r:=h2
  rw [h4,Option.bind_some] at hr
  rw [h3]
  exact ⟨hr,by simp [okV,Nat.blt],clo_spec 8 _ (by kernel_rfl),Ay (by kernel_rfl)⟩
 ·cases h
end Go.Proofs.YtphlckkbihmlnaaGreatDoor.G
end
