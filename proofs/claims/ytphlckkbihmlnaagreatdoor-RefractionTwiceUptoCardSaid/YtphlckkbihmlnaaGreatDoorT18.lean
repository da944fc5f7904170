/- A part of what the law's proof leans on. PACKED BY pack.py of this repo. -/
import Derived.Test.YtphlckkbihmlnaaGreatDoorT17
import Derived.Test.YtphlckkbihmlnaaGreatDoorRows
set_option linter.unusedVariables false
set_option linter.unusedSimpArgs false
set_option linter.defProp false
set_option linter.unusedSectionVars false
section
namespace Go.Proofs.YtphlckkbihmlnaaGreatDoor.G
set_option maxRecDepth 100000
open Go Go.Proofs Go.RowKit RX
section
variable {R:Type} (ED:Int→Int→Int→Int→Int→(Int×Int×Int)) (C1:Int→Int→Int→Int→Int→Int→Int→(Int×Int×Int×Int×Int×Int×Int×Int)) (BS:Int→Int→Int→Int→Int→Int→(Bool)) (A2:Int) (A3:Int) (A8:Int) (A7:Int) (A6:Int) (A9:Int) (A5:Int) (A4:Int) (AF:Int) (AE:Int) (AH:Int) (AG:Int)
def Dv.K (k:Int×Int×Int×Int×Int×Int×Int→R):R:=
 let t0:=BS A2 A3 A8 A7 A6 A9
 bif !t0 then k (0,0,0,0,0,0,1) else
 let t1:=BS A5 A4 AF AE AH AG
 bif !t1 then k (0,0,0,0,0,0,1) else
 let t2:=ED 0 A2 A3 A5 A4
 let t3:=ED t2.2.2 A8 A7 AF AE
 let t4:=ED t3.2.2 A6 A9 AH AG
 let t5:=C1 t4.2.2 t2.1 t2.2.1 t3.1 t3.2.1 t4.1 t4.2.1
 k (t5.1,t5.2.1,t5.2.2.1,t5.2.2.2.1,t5.2.2.2.2.1,t5.2.2.2.2.2.1,t5.2.2.2.2.2.2.1)
theorem Dv.run:xfn Tryz.prog ⟨[(26,Cp.sp ED),(27,Av.sp C1),(77,Az.sp BS)],[],[]⟩ [] 60 Tryz.f84 [.agg ⟨[.int .i64 A2,.int .i64 A3,.int .i64 A8,.int .i64 A7,.int .i64 A6,.int .i64 A9]⟩,.agg ⟨[.int .i64 A5,.int .i64 A4,.int .i64 AF,.int .i64 AE,.int .i64 AH,.int .i64 AG]⟩] []=Dv.K ED C1 BS A2 A3 A8 A7 A6 A9 A5 A4 AF AE AH AG (fun r=>some (.tuple ⟨[.agg ⟨[.int .i64 r.1,.int .i64 r.2.1,.int .i64 r.2.2.1,.int .i64 r.2.2.2.1,.int .i64 r.2.2.2.2.1,.int .i64 r.2.2.2.2.2.1]⟩,.int .i64 r.2.2.2.2.2.2]⟩,[])):=by kernel_rfl
def Dv:Int×Int×Int×Int×Int×Int×Int:=Dv.K Cp Av Az A2 A3 A8 A7 A6 A9 A5 A4 AF AE AH AG id
theorem Dv.nat (k:Int×Int×Int×Int×Int×Int×Int→R):Dv.K ED C1 BS A2 A3 A8 A7 A6 A9 A5 A4 AF AE AH AG k=k (Dv.K ED C1 BS A2 A3 A8 A7 A6 A9 A5 A4 AF AE AH AG id):=by
 simp only [Dv.K,acond k,id_eq]
theorem Dv.eq (a0 a1 a2 a3 a4 a5 b0 b1 b2 b3 b4 b5:Int):Dv a0 a1 a2 a3 a4 a5 b0 b1 b2 b3 b4 b5=o7 (dsub ((a0,a1),(a2,a3),(a4,a5)) ((b0,b1),(b2,b3),(b4,b5))):=by
 simp only [Dv,Dv.K,id_eq,Az.eq,Cp.eq,Av,Av.K,id_eq,dsub,dzip,subR]
 cases hV0:VB ((a0,a1),(a2,a3),(a4,a5)) with
 | false=>
  simp only [hV0,st0,kr0,st70,GR,Fb,Fc,o7,o3,o2,o11,GU,kp0,cond_true,cond_false,Bool.not_true,Bool.not_false,Bool.false_and,Bool.and_false,Bool.true_and,Bool.and_true,bne_self_eq_false,beq_self_eq_true,if_true,if_false]
 | true=>
  cases hV1:VB ((b0,b1),(b2,b3),(b4,b5)) with
  | false=>
   simp only [hV0,hV1,st0,kr0,st70,GR,Fb,Fc,o7,o3,o2,o11,GU,kp0,cond_true,cond_false,Bool.not_true,Bool.not_false,Bool.false_and,Bool.and_false,Bool.true_and,Bool.and_true,bne_self_eq_false,beq_self_eq_true,if_true,if_false]
  | true=>
   rcases t3c (isub a0 a1 b0 b1) with ⟨x0,x1,h0⟩|⟨x0,x1,e0,n0,h0⟩
   ·simp only [hV0,hV1,h0,st0,kr0,st70,GR,Fb,Fc,o7,o3,o2,o11,GU,kp0,cond_true,cond_false,Bool.not_true,Bool.not_false,Bool.false_and,Bool.and_false,Bool.true_and,Bool.and_true,bne_self_eq_false,beq_self_eq_true,if_true,if_false]
    rcases t3c (isub a2 a3 b2 b3) with ⟨y0,y1,h1⟩|⟨y0,y1,e1,n1,h1⟩
    ·simp only [h1,st0,kr0,st70,GR,Fb,Fc,o7,o3,o2,o11,GU,kp0,cond_true,cond_false,Bool.not_true,Bool.not_false,Bool.false_and,Bool.and_false,Bool.true_and,Bool.and_true,bne_self_eq_false,beq_self_eq_true,if_true,if_false]
     rcases t3c (isub a4 a5 b4 b5) with ⟨z0,z1,h2⟩|⟨z0,z1,e2,n2,h2⟩
     ·simp only [h2,st0,kr0,st70,GR,Fb,Fc,o7,o3,o2,o11,GU,kp0,cond_true,cond_false,Bool.not_true,Bool.not_false,Bool.false_and,Bool.and_false,Bool.true_and,Bool.and_true,bne_self_eq_false,beq_self_eq_true,if_true,if_false]
     ·simp only [h2,stE n2,krE n2,st7E n2,Hl n2,Fh n2,Fu n2,kpn _ n2,st0,kr0,st70,GR,Fb,Fc,o7,o3,o2,o11,GU,kp0,cond_true,cond_false,Bool.not_true,Bool.not_false,Bool.false_and,Bool.and_false,Bool.true_and,Bool.and_true,bne_self_eq_false,beq_self_eq_true,if_true,if_false]
    ·simp only [h1,stE n1,krE n1,st7E n1,Hl n1,Fh n1,Fu n1,kpn _ n1,st0,kr0,st70,GR,Fb,Fc,o7,o3,o2,o11,GU,kp0,cond_true,cond_false,Bool.not_true,Bool.not_false,Bool.false_and,Bool.and_false,Bool.true_and,Bool.and_true,bne_self_eq_false,beq_self_eq_true,if_true,if_false]
   ·simp only [hV0,hV1,h0,stE n0,krE n0,st7E n0,Hl n0,Fh n0,Fu n0,kpn _ n0,st0,kr0,st70,GR,Fb,Fc,o7,o3,o2,o11,GU,kp0,cond_true,cond_false,Bool.not_true,Bool.not_false,Bool.false_and,Bool.and_false,Bool.true_and,Bool.and_true,bne_self_eq_false,beq_self_eq_true,if_true,if_false]
end
theorem Dv.ok:SOK Tryz.prog 84 (Dv.sp Dv):=by
 refine Cq (E:=⟨[(26,Cp.sp Cp),(27,Av.sp Av),(77,Az.sp Az)],[],[]⟩) (L:=[]) ⟨(Aa Cp.ok (Aa Av.ok (Aa Az.ok Ac))),Ai,Ad,Ah⟩ 60 Tryz.func84 (by decide) rfl Bs fun vs bl v bl' h=> ?_
 unfold Dv.sp at h
 split at h
 ·rename_i A2 A3 A8 A7 A6 A9 A5 A4 AF AE AH AG
  simp only [Option.some.injEq,Prod.mk.injEq,true_and] at h
  obtain ⟨rfl,rfl⟩:=h
  refine ⟨?_,by simp [okV,Nat.blt],clo_spec 8 _ (by kernel_rfl),As (by kernel_rfl)⟩
  refine (Dv.run Cp Av Az A2 A3 A8 A7 A6 A9 A5 A4 AF AE AH AG).trans ?_
  refine (Dv.nat Cp Av Az A2 A3 A8 A7 A6 A9 A5 A4 AF AE AH AG _).trans ?_
  kernel_rfl
 ·cases h
section
variable {R:Type} (FP:Int→Int→Int→Int→Int→Int→Int→Int→Int→Int→Int→Int→(Int×Int×Int×Int×Int×Int×Int)) (s0_0:Int) (A5:Int) (A4:Int) (AF:Int) (AE:Int) (AH:Int) (AG:Int) (AM:Int) (AL:Int) (ER:Int) (EQ:Int) (EP:Int) (EO:Int)
def Ce.K (k:Int×Int×Int×Int×Int×Int×Int→R):R:=
 bif s0_0 !=0 then k (A5,A4,AF,AE,AH,AG,s0_0) else
 let t0:=FP A5 A4 AF AE AH AG AM AL ER EQ EP EO
 k (t0.1,t0.2.1,t0.2.2.1,t0.2.2.2.1,t0.2.2.2.2.1,t0.2.2.2.2.2.1,t0.2.2.2.2.2.2)
theorem Ce.run:xfn Tryz.prog ⟨[(84,Dv.sp FP)],[],[]⟩ [] 60 Tryz.f49 [.pointer (some ⟨0,0,none⟩),.agg ⟨[.int .i64 A5,.int .i64 A4,.int .i64 AF,.int .i64 AE,.int .i64 AH,.int .i64 AG]⟩,.agg ⟨[.int .i64 AM,.int .i64 AL,.int .i64 ER,.int .i64 EQ,.int .i64 EP,.int .i64 EO]⟩] [.cs [.int .i64 s0_0] 76]=Ce.K FP s0_0 A5 A4 AF AE AH AG AM AL ER EQ EP EO (fun r=>some (.agg ⟨[.int .i64 r.1,.int .i64 r.2.1,.int .i64 r.2.2.1,.int .i64 r.2.2.2.1,.int .i64 r.2.2.2.2.1,.int .i64 r.2.2.2.2.2.1]⟩,[.cs [.int .i64 r.2.2.2.2.2.2] 76])):=by kernel_rfl
def Ce:Int×Int×Int×Int×Int×Int×Int:=Ce.K Dv s0_0 A5 A4 AF AE AH AG AM AL ER EQ EP EO id
theorem Ce.nat (k:Int×Int×Int×Int×Int×Int×Int→R):Ce.K FP s0_0 A5 A4 AF AE AH AG AM AL ER EQ EP EO k=k (Ce.K FP s0_0 A5 A4 AF AE AH AG AM AL ER EQ EP EO id):=by
 simp only [Ce.K,acond k,id_eq]
theorem Ce.eq (s a0 a1 a2 a3 a4 a5 b0 b1 b2 b3 b4 b5:Int):Ce s a0 a1 a2 a3 a4 a5 b0 b1 b2 b3 b4 b5=st7 s ((a0,a1),(a2,a3),(a4,a5)) (dsub ((a0,a1),(a2,a3),(a4,a5)) ((b0,b1),(b2,b3),(b4,b5))):=by
 simp only [Ce,Ce.K,id_eq,Dv.eq,st7]
end
theorem Ce.ok:SOK Tryz.prog 49 (Ce.sp Ce):=by
 refine Cq (E:=⟨[(84,Dv.sp Dv)],[],[]⟩) (L:=[]) ⟨(Aa Dv.ok Ac),Ai,Ad,Ah⟩ 60 Tryz.func49 (by decide) rfl Bs fun vs bl v bl' h=> ?_
 unfold Ce.sp at h
 split at h
 ·rename_i A5 A4 AF AE AH AG AM AL ER EQ EP EO s0_0
  simp only [Option.some.injEq,Prod.mk.injEq,true_and] at h
  obtain ⟨rfl,rfl⟩:=h
  refine ⟨?_,by simp [okV,Nat.blt],clo_spec 8 _ (by kernel_rfl),As (by kernel_rfl)⟩
  refine (Ce.run Dv s0_0 A5 A4 AF AE AH AG AM AL ER EQ EP EO).trans ?_
  refine (Ce.nat Dv s0_0 A5 A4 AF AE AH AG AM AL ER EQ EP EO _).trans ?_
  kernel_rfl
 ·cases h
section
variable {R:Type} (CT:Int→Int→Int→Int→Int→Int→Int→Int→Int→Int→Int→Int→(Int×Int×Int)) (CK:Int→Int→Int→Int→Int→Int→Int→Int→Int→(Int×Int×Int×Int×Int×Int×Int)) (AT:Int→Int→Int→Int→Int→(Int×Int×Int)) (AP:Int→Int→Int→Int→Int→(Int×Int×Int)) (AQ:Int→Int→Int→Int→Int→(Int×Int×Int)) (AS:Int→Int→Int→Int→Int→(Int×Int×Int)) (EI:Int→Int→Int→Int→Int→Int→Int→Int→Int→Int→Int→Int→Int→(Int×Int×Int×Int×Int×Int×Int)) (BJ:Int→Int→Int→Int→(Int×Int×Int)) (A2:Int) (A3:Int) (A8:Int) (A7:Int) (A6:Int) (A9:Int) (A5:Int) (A4:Int) (AF:Int) (AE:Int) (AH:Int) (AG:Int)
def Cm.K {R:Type} (CT:Int→Int→Int→Int→Int→Int→Int→Int→Int→Int→Int→Int→(Int×Int×Int)) (CK:Int→Int→Int→Int→Int→Int→Int→Int→Int→(Int×Int×Int×Int×Int×Int×Int)) (AT:Int→Int→Int→Int→Int→(Int×Int×Int)) (AP:Int→Int→Int→Int→Int→(Int×Int×Int)) (AQ:Int→Int→Int→Int→Int→(Int×Int×Int)) (AS:Int→Int→Int→Int→Int→(Int×Int×Int)) (EI:Int→Int→Int→Int→Int→Int→Int→Int→Int→Int→Int→Int→Int→(Int×Int×Int×Int×Int×Int×Int)) (BJ:Int→Int→Int→Int→(Int×Int×Int)) (A2:Int) (A3:Int) (A8:Int) (A7:Int) (A6:Int) (A9:Int) (A5:Int) (A4:Int) (AF:Int) (AE:Int) (AH:Int) (AG:Int) (k:Int×Int×Int×Int×Int×Int×Int→R):R:=
 let t0:=CT A2 A3 A8 A7 A6 A9 A5 A4 AF AE AH AG
 bif t0.2.2 !=0 then k (0,0,0,0,0,0,t0.2.2) else
 let t1:=AT 0 t0.1 t0.2.1 t0.1 t0.2.1
 let t2:=CK t1.2.2 A5 A4 AF AE AH AG t1.1 t1.2.1
 let t3:=EI t2.2.2.2.2.2.2 A2 A3 A8 A7 A6 A9 t2.1 t2.2.1 t2.2.2.1 t2.2.2.2.1 t2.2.2.2.2.1 t2.2.2.2.2.2.1
 bif t3.2.2.2.2.2.2 !=0 then k (0,0,0,0,0,0,t3.2.2.2.2.2.2) else k (t3.1,t3.2.1,t3.2.2.1,t3.2.2.2.1,t3.2.2.2.2.1,t3.2.2.2.2.2.1,0)
theorem Cm.run:xfn Tryz.prog ⟨[(38,Ck.sp CT),(44,Bl.sp CK),(45,Ef.sp AT AP AQ AS),(49,Ce.sp EI),(50,Bf.sp BJ)],[],[]⟩ [] 60 Tryz.f13 [.agg ⟨[.int .i64 A2,.int .i64 A3,.int .i64 A8,.int .i64 A7,.int .i64 A6,.int .i64 A9]⟩,.agg ⟨[.int .i64 A5,.int .i64 A4,.int .i64 AF,.int .i64 AE,.int .i64 AH,.int .i64 AG]⟩] []=Cm.K CT CK AT AP AQ AS EI BJ A2 A3 A8 A7 A6 A9 A5 A4 AF AE AH AG (fun r=>some (.tuple ⟨[.agg ⟨[.int .i64 r.1,.int .i64 r.2.1,.int .i64 r.2.2.1,.int .i64 r.2.2.2.1,.int .i64 r.2.2.2.2.1,.int .i64 r.2.2.2.2.2.1]⟩,.int .i64 r.2.2.2.2.2.2]⟩,[])):=by kernel_rfl
def Cm:Int×Int×Int×Int×Int×Int×Int:=Cm.K Ck Bl Aj Ap Aq Ar Ce Bf A2 A3 A8 A7 A6 A9 A5 A4 AF AE AH AG id
theorem Cm.nat (k:Int×Int×Int×Int×Int×Int×Int→R):Cm.K CT CK AT AP AQ AS EI BJ A2 A3 A8 A7 A6 A9 A5 A4 AF AE AH AG k=k (Cm.K CT CK AT AP AQ AS EI BJ A2 A3 A8 A7 A6 A9 A5 A4 AF AE AH AG id):=by
 simp only [Cm.K,acond k,id_eq]
theorem Cm.eq (a0 a1 a2 a3 a4 a5 b0 b1 b2 b3 b4 b5:Int):Cm a0 a1 a2 a3 a4 a5 b0 b1 b2 b3 b4 b5=o7 (rflx ((a0,a1),(a2,a3),(a4,a5)) ((b0,b1),(b2,b3),(b4,b5))):=by
 simp only [Cm,Cm.K,id_eq,Ck.eq,Aj.eq,Bl.eq,Ce.eq,rflx,addR]
 rcases (Qp ((a0,a1),(a2,a3),(a4,a5)) ((b0,b1),(b2,b3),(b4,b5))).cases with ⟨⟨x0,x1⟩,h0⟩|⟨e0,n0,h0⟩
 ·simp only [h0,st0,kr0,st70,GR,Fb,Fc,o7,o3,o2,o11,GU,kp0,cond_true,cond_false,Bool.not_true,Bool.not_false,Bool.false_and,Bool.and_false,Bool.true_and,Bool.and_true,bne_self_eq_false,beq_self_eq_true,if_true,if_false,IK]
  rcases t3c (iadd x0 x1 x0 x1) with ⟨m0,m1,h1⟩|⟨m0,m1,e1,n1,h1⟩
  ·simp only [h1,st0,kr0,st70,GR,Fb,Fc,o7,o3,o2,o11,GU,kp0,cond_true,cond_false,Bool.not_true,Bool.not_false,Bool.false_and,Bool.and_false,Bool.true_and,Bool.and_true,bne_self_eq_false,beq_self_eq_true,if_true,if_false,IK]
   rcases (NO ((b0,b1),(b2,b3),(b4,b5)) (m0,m1)).cases with ⟨⟨⟨s0,s1⟩,⟨s2,s3⟩,⟨s4,s5⟩⟩,h2⟩|⟨e2,n2,h2⟩
   ·simp only [h2,st0,kr0,st70,GR,Fb,Fc,o7,o3,o2,o11,GU,kp0,cond_true,cond_false,Bool.not_true,Bool.not_false,Bool.false_and,Bool.and_false,Bool.true_and,Bool.and_true,bne_self_eq_false,beq_self_eq_true,if_true,if_false,IK]
    rcases (Qo ((a0,a1),(a2,a3),(a4,a5)) ((s0,s1),(s2,s3),(s4,s5))).cases with ⟨⟨⟨w0,w1⟩,⟨w2,w3⟩,⟨w4,w5⟩⟩,h3⟩|⟨e3,n3,h3⟩
    ·simp only [h3,st0,kr0,st70,GR,Fb,Fc,o7,o3,o2,o11,GU,kp0,cond_true,cond_false,Bool.not_true,Bool.not_false,Bool.false_and,Bool.and_false,Bool.true_and,Bool.and_true,bne_self_eq_false,beq_self_eq_true,if_true,if_false,IK]
    ·simp only [h3,stE n3,krE n3,st7E n3,Hl n3,Fh n3,Fu n3,kpn _ n3,st0,kr0,st70,GR,Fb,Fc,o7,o3,o2,o11,GU,kp0,cond_true,cond_false,Bool.not_true,Bool.not_false,Bool.false_and,Bool.and_false,Bool.true_and,Bool.and_true,bne_self_eq_false,beq_self_eq_true,if_true,if_false,IK]
   ·simp only [h2,stE n2,krE n2,st7E n2,Hl n2,Fh n2,Fu n2,kpn _ n2,st0,kr0,st70,GR,Fb,Fc,o7,o3,o2,o11,GU,kp0,cond_true,cond_false,Bool.not_true,Bool.not_false,Bool.false_and,Bool.and_false,Bool.true_and,Bool.and_true,bne_self_eq_false,beq_self_eq_true,if_true,if_false,IK]
  ·simp only [h1,stE n1,krE n1,st7E n1,Hl n1,Fh n1,Fu n1,kpn _ n1,st0,kr0,st70,GR,Fb,Fc,o7,o3,o2,o11,GU,kp0,cond_true,cond_false,Bool.not_true,Bool.not_false,Bool.false_and,Bool.and_false,Bool.true_and,Bool.and_true,bne_self_eq_false,beq_self_eq_true,if_true,if_false,IK]
 ·simp only [h0,stE n0,krE n0,st7E n0,Hl n0,Fh n0,Fu n0,kpn _ n0,st0,kr0,st70,GR,Fb,Fc,o7,o3,o2,o11,GU,kp0,cond_true,cond_false,Bool.not_true,Bool.not_false,Bool.false_and,Bool.and_false,Bool.true_and,Bool.and_true,bne_self_eq_false,beq_self_eq_true,if_true,if_false,IK]
end
theorem Cm.ok:SOK Tryz.prog 13 (Cm.sp Cm):=by
 refine Cq (E:=⟨[(38,Ck.sp Ck),(44,Bl.sp Bl),(45,Ef.sp Aj Ap Aq Ar),(49,Ce.sp Ce),(50,Bf.sp Bf)],[],[]⟩) (L:=[]) ⟨(Aa Ck.ok (Aa Bl.ok (Aa Ef.ok (Aa Ce.ok (Aa Bf.ok Ac))))),Ai,Ad,Ah⟩ 60 Tryz.func13 (by decide) rfl Bs fun vs bl v bl' h=> ?_
 unfold Cm.sp at h
 split at h
 ·rename_i A2 A3 A8 A7 A6 A9 A5 A4 AF AE AH AG
  simp only [Option.some.injEq,Prod.mk.injEq,true_and] at h
  obtain ⟨rfl,rfl⟩:=h
  refine ⟨?_,by simp [okV,Nat.blt],clo_spec 8 _ (by kernel_rfl),As (by kernel_rfl)⟩
  refine (Cm.run Ck Bl Aj Ap Aq Ar Ce Bf A2 A3 A8 A7 A6 A9 A5 A4 AF AE AH AG).trans ?_
  refine (Cm.nat Ck Bl Aj Ap Aq Ar Ce Bf A2 A3 A8 A7 A6 A9 A5 A4 AF AE AH AG _).trans ?_
  kernel_rfl
 ·cases h
section
variable {R:Type} (AI:Int→Int→(Bool)) (A2:Int) (A3:Int) (A5:Int) (A4:Int)
def Dj.K (k:(Bool)→R):R:=
 let t0:=AI A2 A3
 bif !t0 then k (false) else
 let t1:=AI A5 A4
 bif !t1 then k (false) else bif decide (A2≥A5) then k (decide (A3≤A4)) else k (false)
theorem Dj.run:xfn Tryz.prog ⟨[(21,Ab.sp AI)],[(82,Tryz.f82)],[]⟩ [] 60 Tryz.f51 [.agg ⟨[.int .i64 A2,.int .i64 A3]⟩,.agg ⟨[.int .i64 A5,.int .i64 A4]⟩] []=Dj.K AI A2 A3 A5 A4 (fun r=>some (.bool r,[])):=by kernel_rfl
def Dj:Bool:=Dj.K Ab A2 A3 A5 A4 id
theorem Dj.nat (k:(Bool)→R):Dj.K AI A2 A3 A5 A4 k=k (Dj.K AI A2 A3 A5 A4 id):=by
 simp only [Dj.K,acond k,id_eq]
end
def inb (a b c d:Int):Bool:=V a b&&(V c d&&(decide (c≤a)&&decide (b≤d)))
theorem PX {a b c d:Int} (h1:V a b=true) (h2:V c d=true) (h3:c≤a) (h4:b≤d):inb a b c d=true:=by simp only [inb,h1,h2,h3,h4,decide_true,Bool.and_self]
theorem Dj.eq (a b c d:Int):Dj a b c d=inb a b c d:=by
 simp only [Dj,Dj.K,id_eq,Ab.eq,inb]
 cases V a b<;>cases V c d<;>by_cases h1:c≤a<;>simp [h1]
theorem Dj.ok:SOK Tryz.prog 51 (Dj.sp Dj):=by
 refine Cq (E:=⟨[(21,Ab.sp Ab)],[(82,Tryz.f82)],[]⟩) (L:=[]) ⟨(Aa Ab.ok Ac),(Ex ⟨Tryz.func82,by decide,rfl⟩ Ai),Ad,Ah⟩ 60 Tryz.func51 (by decide) rfl Bs fun vs bl v bl' h=> ?_
 unfold Dj.sp at h
 split at h
 ·rename_i A2 A3 A5 A4
  simp only [Option.some.injEq,Prod.mk.injEq,true_and] at h
  obtain ⟨rfl,rfl⟩:=h
  refine ⟨?_,by simp [okV,Nat.blt],clo_spec 8 _ (by kernel_rfl),As (by kernel_rfl)⟩
  refine (Dj.run Ab A2 A3 A5 A4).trans ?_
  refine (Dj.nat Ab A2 A3 A5 A4 _).trans ?_
  kernel_rfl
 ·cases h
section
variable {R:Type} (EW:Int→Int→Int→Int→(Bool)) (A2:Int) (A3:Int) (A8:Int) (A7:Int) (A6:Int) (A9:Int) (A5:Int) (A4:Int) (AF:Int) (AE:Int) (AH:Int) (AG:Int)
def Cz.K (k:(Bool)→R):R:=
 let t0:=EW A2 A3 A5 A4
 bif t0 then
 let t1:=EW A8 A7 AF AE
 bif t1 then
 let t2:=EW A6 A9 AH AG
 k (t2) else k (false) else k (false)
theorem Cz.run:xfn Tryz.prog ⟨[(51,Dj.sp EW)],[],[]⟩ [] 60 Tryz.f14 [.agg ⟨[.int .i64 A2,.int .i64 A3,.int .i64 A8,.int .i64 A7,.int .i64 A6,.int .i64 A9]⟩,.agg ⟨[.int .i64 A5,.int .i64 A4,.int .i64 AF,.int .i64 AE,.int .i64 AH,.int .i64 AG]⟩] []=Cz.K EW A2 A3 A8 A7 A6 A9 A5 A4 AF AE AH AG (fun r=>some (.bool r,[])):=by kernel_rfl
def Cz:Bool:=Cz.K Dj A2 A3 A8 A7 A6 A9 A5 A4 AF AE AH AG id
theorem Cz.nat (k:(Bool)→R):Cz.K EW A2 A3 A8 A7 A6 A9 A5 A4 AF AE AH AG k=k (Cz.K EW A2 A3 A8 A7 A6 A9 A5 A4 AF AE AH AG id):=by
 simp only [Cz.K,acond k,id_eq]
end
theorem Cz.of {a0 a1 a2 a3 a4 a5 b0 b1 b2 b3 b4 b5:Int} (h0:inb a0 a1 b0 b1=true) (h1:inb a2 a3 b2 b3=true) (h2:inb a4 a5 b4 b5=true):Cz a0 a1 a2 a3 a4 a5 b0 b1 b2 b3 b4 b5=true:=by
 simp only [Cz,Cz.K,id_eq,Dj.eq,h0,h1,h2,cond_true]
theorem Cz.ok:SOK Tryz.prog 14 (Cz.sp Cz):=by
 refine Cq (E:=⟨[(51,Dj.sp Dj)],[],[]⟩) (L:=[]) ⟨(Aa Dj.ok Ac),Ai,Ad,Ah⟩ 60 Tryz.func14 (by decide) rfl Bs fun vs bl v bl' h=> ?_
 unfold Cz.sp at h
 split at h
 ·rename_i A2 A3 A8 A7 A6 A9 A5 A4 AF AE AH AG
  simp only [Option.some.injEq,Prod.mk.injEq,true_and] at h
  obtain ⟨rfl,rfl⟩:=h
  refine ⟨?_,by simp [okV,Nat.blt],clo_spec 8 _ (by kernel_rfl),As (by kernel_rfl)⟩
  refine (Cz.run Dj A2 A3 A8 A7 A6 A9 A5 A4 AF AE AH AG).trans ?_
  refine (Cz.nat Dj A2 A3 A8 A7 A6 A9 A5 A4 AF AE AH AG _).trans ?_
  kernel_rfl
 ·cases h
section
variable {R:Type} (FA:(Bool)) (FM:TF20 (Bool)) (FK:TF20 Bool) (F5:TF20 (Int×Int×Int×Int×Int×Int×Int)) (F1:TF20 Bool) (ET:Int→Int→Int→Int→Int→Int→Int→Int→Int→Int→Int→Int→(Int×Int×Int×Int×Int×Int×Int)) (F6:Int→Int→Int→Int→Int→Int→Int→Int→Int→Int→Int→Int→(Bool)) (A2:Int) (A3:Int) (A8:Int) (A7:Int) (A6:Int) (A9:Int) (A5:Bool) (A4:ByteArray) (AF:Bool) (AE:ByteArray) (AH:Bool) (AG:ByteArray) (AO:Bool) (AN:ByteArray) (AK:Bool) (AJ:ByteArray) (DO:Bool) (DN:ByteArray) (DM:Bool) (DL:ByteArray) (DK:Bool) (DJ:ByteArray) (DI:Bool) (DH:ByteArray) (DG:Bool) (DF:ByteArray) (DE:Bool) (DD:ByteArray) (DC:Bool) (DB:ByteArray) (DA:Bool) (D9:ByteArray) (D8:Bool) (D7:ByteArray) (D6:Bool) (D5:ByteArray) (G2:Bool) (G1:ByteArray) (G0:Bool) (FZ:ByteArray) (FY:Bool) (FX:ByteArray) (FW:Bool) (FV:ByteArray) (FU:Bool) (FT:ByteArray)
noncomputable def Ch.K (k:(Bool)→Option R):Option R:=
 bif !FA then k (false) else
 let t0:=FK A5 A4 AF AE AH AG AO AN AK AJ DO DN DM DL DK DJ DI DH DG DF DE DD DC DB DA D9 D8 D7 D6 D5 G2 G1 G0 FZ FY FX FW FV FU FT
 bif t0 then
 let t1:=FM A5 A4 AF AE AH AG AO AN AK AJ DO DN DM DL DK DJ DI DH DG DF DE DD DC DB DA D9 D8 D7 D6 D5 G2 G1 G0 FZ FY FX FW FV FU FT
 bif !t1 then k (true) else
 let t2:=F1 A5 A4 AF AE AH AG AO AN AK AJ DO DN DM DL DK DJ DI DH DG DF DE DD DC DB DA D9 D8 D7 D6 D5 G2 G1 G0 FZ FY FX FW FV FU FT
 bif t2 then
 let t3:=F5 A5 A4 AF AE AH AG AO AN AK AJ DO DN DM DL DK DJ DI DH DG DF DE DD DC DB DA D9 D8 D7 D6 D5 G2 G1 G0 FZ FY FX FW FV FU FT
 bif t3.2.2.2.2.2.2 !=0 then k (true) else
 let t4:=ET A2 A3 A8 A7 A6 A9 t3.1 t3.2.1 t3.2.2.1 t3.2.2.2.1 t3.2.2.2.2.1 t3.2.2.2.2.2.1
 bif t4.2.2.2.2.2.2 !=0 then k (true) else
 let t5:=ET t4.1 t4.2.1 t4.2.2.1 t4.2.2.2.1 t4.2.2.2.2.1 t4.2.2.2.2.2.1 t3.1 t3.2.1 t3.2.2.1 t3.2.2.2.1 t3.2.2.2.2.1 t3.2.2.2.2.2.1
 bif t5.2.2.2.2.2.2 !=0 then k (true) else
 let t6:=F6 A2 A3 A8 A7 A6 A9 t5.1 t5.2.1 t5.2.2.1 t5.2.2.2.1 t5.2.2.2.2.1 t5.2.2.2.2.2.1
 k (t6) else none else none
theorem Ch.run:xfn Tryz.prog ⟨[(5,Dr.sp FA),(6,Cc.sp FM FK),(8,Bi.sp F5 F1),(13,Cm.sp ET),(14,Cz.sp F6)],[],[]⟩ [] 60 Tryz.f4 [.agg ⟨[.int .i64 A2,.int .i64 A3,.int .i64 A8,.int .i64 A7,.int .i64 A6,.int .i64 A9]⟩,.agg ⟨.bool A5:: .string A4:: .bool AF:: .string AE:: .bool AH:: .string AG:: .bool AO:: .string AN:: .bool AK:: .string AJ:: .bool DO:: .string DN:: .bool DM:: .string DL:: .bool DK:: .string DJ:: .bool DI:: .string DH:: .bool DG:: .string DF:: .bool DE:: .string DD:: .bool DC:: .string DB:: .bool DA:: .string D9:: .bool D8:: .string D7:: .bool D6:: .string D5:: .bool G2:: .string G1:: .bool G0:: .string FZ:: .bool FY:: .string FX:: .bool FW:: .string FV:: .bool FU:: .string FT::[]⟩] []=Ch.K FA FM FK F5 F1 ET F6 A2 A3 A8 A7 A6 A9 A5 A4 AF AE AH AG AO AN AK AJ DO DN DM DL DK DJ DI DH DG DF DE DD DC DB DA D9 D8 D7 D6 D5 G2 G1 G0 FZ FY FX FW FV FU FT (fun r=>some (.bool r,[])):=by kernel_rfl
noncomputable def Ch.o:Option (Bool):=Ch.K Dr Cc Cc.pre Bi Bi.pre Cm Cz A2 A3 A8 A7 A6 A9 A5 A4 AF AE AH AG AO AN AK AJ DO DN DM DL DK DJ DI DH DG DF DE DD DC DB DA D9 D8 D7 D6 D5 G2 G1 G0 FZ FY FX FW FV FU FT some
noncomputable def Ch:Bool:=(Ch.o A2 A3 A8 A7 A6 A9 A5 A4 AF AE AH AG AO AN AK AJ DO DN DM DL DK DJ DI DH DG DF DE DD DC DB DA D9 D8 D7 D6 D5 G2 G1 G0 FZ FY FX FW FV FU FT).getD default
theorem Ch.nat (k:(Bool)→Option R):Ch.K FA FM FK F5 F1 ET F6 A2 A3 A8 A7 A6 A9 A5 A4 AF AE AH AG AO AN AK AJ DO DN DM DL DK DJ DI DH DG DF DE DD DC DB DA D9 D8 D7 D6 D5 G2 G1 G0 FZ FY FX FW FV FU FT k=(Ch.K FA FM FK F5 F1 ET F6 A2 A3 A8 A7 A6 A9 A5 A4 AF AE AH AG AO AN AK AJ DO DN DM DL DK DJ DI DH DG DF DE DD DC DB DA D9 D8 D7 D6 D5 G2 G1 G0 FZ FY FX FW FV FU FT some).bind k:=by
 simp only [Ch.K,bcond,Option.bind_some,Option.bind_none]
end
theorem RefractionTwice.law (d0 d1 d2 d3 d4 d5:Int) (n0:Bool) (s0:ByteArray) (n1:Bool) (s1:ByteArray) (n2:Bool) (s2:ByteArray) (n3:Bool) (s3:ByteArray) (n4:Bool) (s4:ByteArray) (n5:Bool) (s5:ByteArray) (n6:Bool) (s6:ByteArray) (n7:Bool) (s7:ByteArray) (n8:Bool) (s8:ByteArray) (n9:Bool) (s9:ByteArray) (n10:Bool) (s10:ByteArray) (n11:Bool) (s11:ByteArray) (n12:Bool) (s12:ByteArray) (n13:Bool) (s13:ByteArray) (n14:Bool) (s14:ByteArray) (n15:Bool) (s15:ByteArray) (n16:Bool) (s16:ByteArray) (n17:Bool) (s17:ByteArray) (n18:Bool) (s18:ByteArray) (n19:Bool) (s19:ByteArray) (z0:s0.size≤8589934592) (z1:s1.size≤8589934592) (z2:s2.size≤8589934592) (z3:s3.size≤8589934592) (z4:s4.size≤8589934592) (z5:s5.size≤8589934592) (z6:s6.size≤8589934592) (z7:s7.size≤8589934592) (z8:s8.size≤8589934592) (z9:s9.size≤8589934592) (z10:s10.size≤8589934592) (z11:s11.size≤8589934592) (z12:s12.size≤8589934592) (z13:s13.size≤8589934592) (z14:s14.size≤8589934592) (z15:s15.size≤8589934592) (z16:s16.size≤8589934592) (z17:s17.size≤8589934592) (z18:s18.size≤8589934592) (z19:s19.size≤8589934592):Ch.o d0 d1 d2 d3 d4 d5 n0 s0 n1 s1 n2 s2 n3 s3 n4 s4 n5 s5 n6 s6 n7 s7 n8 s8 n9 s9 n10 s10 n11 s11 n12 s12 n13 s13 n14 s14 n15 s15 n16 s16 n17 s17 n18 s18 n19 s19=some true:=by
 obtain ⟨b,eb,hb⟩:=Cc.spec n0 s0 n1 s1 n2 s2 n3 s3 n4 s4 n5 s5 n6 s6 n7 s7 n8 s8 n9 s9 n10 s10 n11 s11 n12 s12 n13 s13 n14 s14 n15 s15 n16 s16 n17 s17 n18 s18 n19 s19 z0 z1 z2 z3 z4 z5 z6 z7 z8 z9 z10 z11 z12 z13 z14 z15 z16 z17 z18 z19
 have p1:Cc.pre n0 s0 n1 s1 n2 s2 n3 s3 n4 s4 n5 s5 n6 s6 n7 s7 n8 s8 n9 s9 n10 s10 n11 s11 n12 s12 n13 s13 n14 s14 n15 s15 n16 s16 n17 s17 n18 s18 n19 s19=true:=Ey eb
 have v1:Cc n0 s0 n1 s1 n2 s2 n3 s3 n4 s4 n5 s5 n6 s6 n7 s7 n8 s8 n9 s9 n10 s10 n11 s11 n12 s12 n13 s13 n14 s14 n15 s15 n16 s16 n17 s17 n18 s18 n19 s19=b:=Fq eb
 simp only [Ch.o,Ch.K,Ps,Cm.eq,p1,v1,cond_true,cond_false,Bool.not_true]
 cases b with
 |false=>rfl
 | true=>
  obtain ⟨x,y,z,q,ex,ey,ez,eq,ox,oy,oz,oq,bx,by',bz,bq,hn⟩:=hb rfl
  simp only [C5,Prod.mk.injEq] at ex ey ez eq
  obtain ⟨rfl,rfl,rfl,rfl,rfl,rfl,rfl,rfl,rfl,rfl⟩:=ex
  obtain ⟨rfl,rfl,rfl,rfl,rfl,rfl,rfl,rfl,rfl,rfl⟩:=ey
  obtain ⟨rfl,rfl,rfl,rfl,rfl,rfl,rfl,rfl,rfl,rfl⟩:=ez
  obtain ⟨rfl,rfl,rfl,rfl,rfl,rfl,rfl,rfl,rfl,rfl⟩:=eq
  have hu:=R7 ox oy oz hn
  simp only [Bi.ps bx by' bz bq (by omega) ox oy oz oq,Bi.es bx by' bz bq (by omega) ox oy oz oq,hn,cond_true,cond_false,Bool.not_true]
  generalize dquot x (qsq x y z)=tx at*
  generalize dquot y (qsq x y z)=ty at*
  generalize dquot z (qsq x y z)=tz at*
  rcases (QG ((d0,d1),(d2,d3),(d4,d5)) ((tx.1,tx.2.1),(ty.1,ty.2.1),(tz.1,tz.2.1))).cases with ⟨⟨⟨a0,a1⟩,⟨a2,a3⟩,⟨a4,a5⟩⟩,ha⟩|⟨e,he,ha⟩
  ·rcases (QG ((a0,a1),(a2,a3),(a4,a5)) ((tx.1,tx.2.1),(ty.1,ty.2.1),(tz.1,tz.2.1))).cases with ⟨⟨⟨b0,b1⟩,⟨b2,b3⟩,⟨b4,b5⟩⟩,hb⟩|⟨e,he,hb⟩
   ·have vd:=rflx_vd ha
    have vb:=rflx_vo hb
    obtain ⟨g0,g1,g2⟩:=Qu vd hu ha hb
    rw [O9] at vd vb
    simp only at g0 g1 g2
    simp only [ha,o7,hb,Cz.of (PX vd.1 vb.1 g0.1 g0.2) (PX vd.2.1 vb.2.1 g1.1 g1.2) (PX vd.2.2 vb.2.2 g2.1 g2.2),bne_self_eq_false,cond_false,cond_true]
   ·simp only [ha,o7,hb,Fh he,bne_self_eq_false,cond_false,cond_true]
  ·simp only [ha,o7,Fh he,bne_self_eq_false,cond_false,cond_true]
theorem Ch.calls (A2:Int) (A3:Int) (A8:Int) (A7:Int) (A6:Int) (A9:Int) (A5:Bool) (A4:ByteArray) (AF:Bool) (AE:ByteArray) (AH:Bool) (AG:ByteArray) (AO:Bool) (AN:ByteArray) (AK:Bool) (AJ:ByteArray) (DO:Bool) (DN:ByteArray) (DM:Bool) (DL:ByteArray) (DK:Bool) (DJ:ByteArray) (DI:Bool) (DH:ByteArray) (DG:Bool) (DF:ByteArray) (DE:Bool) (DD:ByteArray) (DC:Bool) (DB:ByteArray) (DA:Bool) (D9:ByteArray) (D8:Bool) (D7:ByteArray) (D6:Bool) (D5:ByteArray) (G2:Bool) (G1:ByteArray) (G0:Bool) (FZ:ByteArray) (FY:Bool) (FX:ByteArray) (FW:Bool) (FV:ByteArray) (FU:Bool) (FT:ByteArray) (h:Ch.o A2 A3 A8 A7 A6 A9 A5 A4 AF AE AH AG AO AN AK AJ DO DN DM DL DK DJ DI DH DG DF DE DD DC DB DA D9 D8 D7 D6 D5 G2 G1 G0 FZ FY FX FW FV FU FT=some true) (w:World) (ht:TabOk w):Calls Tryz.prog 4 ⟨[.agg ⟨[.int .i64 A2,.int .i64 A3,.int .i64 A8,.int .i64 A7,.int .i64 A6,.int .i64 A9]⟩,.agg ⟨.bool A5:: .string A4:: .bool AF:: .string AE:: .bool AH:: .string AG:: .bool AO:: .string AN:: .bool AK:: .string AJ:: .bool DO:: .string DN:: .bool DM:: .string DL:: .bool DK:: .string DJ:: .bool DI:: .string DH:: .bool DG:: .string DF:: .bool DE:: .string DD:: .bool DC:: .string DB:: .bool DA:: .string D9:: .bool D8:: .string D7:: .bool D6:: .string D5:: .bool G2:: .string G1:: .bool G0:: .string FZ:: .bool FY:: .string FX:: .bool FW:: .string FV:: .bool FU:: .string FT::[]⟩]⟩ w fun e w'=>e= .returned (.bool true)∧Below w.heap.size w w':=by
 refine RN (E:=⟨[(5,Dr.sp Dr),(6,Cc.sp Cc Cc.pre),(8,Bi.sp Bi Bi.pre),(13,Cm.sp Cm),(14,Cz.sp Cz)],[],[]⟩) (L:=[]) ⟨(Aa Dr.ok (Aa Cc.ok (Aa Bi.ok (Aa Cm.ok (Aa Cz.ok Ac))))),Ai,Ad,Ah⟩ 60 Tryz.func4 (by decide) rfl Bs (vs:=[.agg ⟨[.int .i64 A2,.int .i64 A3,.int .i64 A8,.int .i64 A7,.int .i64 A6,.int .i64 A9]⟩,.agg ⟨.bool A5:: .string A4:: .bool AF:: .string AE:: .bool AH:: .string AG:: .bool AO:: .string AN:: .bool AK:: .string AJ:: .bool DO:: .string DN:: .bool DM:: .string DL:: .bool DK:: .string DJ:: .bool DI:: .string DH:: .bool DG:: .string DF:: .bool DE:: .string DD:: .bool DC:: .string DB:: .bool DA:: .string D9:: .bool D8:: .string D7:: .bool D6:: .string D5:: .bool G2:: .string G1:: .bool G0:: .string FZ:: .bool FY:: .string FX:: .bool FW:: .string FV:: .bool FU:: .string FT::[]⟩]) (v:= .bool true) ?_ (by simp [okV,Nat.blt]) (clo_spec 8 _ rfl) w ht
 refine (Ch.run Dr Cc Cc.pre Bi Bi.pre Cm Cz A2 A3 A8 A7 A6 A9 A5 A4 AF AE AH AG AO AN AK AJ DO DN DM DL DK DJ DI DH DG DF DE DD DC DB DA D9 D8 D7 D6 D5 G2 G1 G0 FZ FY FX FW FV FU FT).trans ?_
 rw [Ch.nat]
 have h4:Ch.K Dr Cc Cc.pre Bi Bi.pre Cm Cz A2 A3 A8 A7 A6 A9 A5 A4 AF AE AH AG AO AN AK AJ DO DN DM DL DK DJ DI DH DG DF DE DD DC DB DA D9 D8 D7 D6 D5 G2 G1 G0 FZ FY FX FW FV FU FT some=some true:=h
 rw [h4]
 rfl
end Go.Proofs.YtphlckkbihmlnaaGreatDoor.G
end
section
namespace RX
open Go Go.RowKit
theorem okWide_agg {P:Program} {w:World} {r:Reach} {b:Nat} {t:TypeId} {v:Value} {ts:List TypeId} (hu:(match P.underlying t with|some (.struct _)=>true|some (.array _ _)=>true|_=>false)=true) (hc:P.cellTypes P.depth t=some ts) (hn:P.cellsOf t=ts.length) (h:Value.okWide P w r b t v):
  ∃l:List Value,v= .agg ⟨l⟩∧l.length=ts.length∧∀(i:Nat) (x:Value) (u:TypeId),l[i]? =some x→ts[i]? =some u→Cell.okWide P w r b u x:=by
 have key:∃cs,v= .agg cs∧cs.size=P.cellsOf t∧Row.okWide P w r b t cs:=by
  unfold Value.okWide at h
  split at h
  ·exact h
  ·exact h
  ·rename_i h1 h2
   split at hu
   ·rename_i hs; exact absurd hs (h1 _)
   ·rename_i hs; exact absurd hs (h2 _ _)
   ·cases hu
 obtain ⟨cs,rfl,hsz,ts',hts,_,hcell⟩:=key
 rw [hc] at hts
 injection hts with hts
 subst hts
 refine ⟨cs.toList,rfl,by simp [hsz,hn],fun i x u hx hu'=> ?_⟩
 have hx':cs[i]? =some x:=by simpa using hx
 obtain ⟨u',e,hk⟩:=hcell i x hx'
 have hlt:i<ts.length:=(List.getElem?_eq_some_iff.1 hu').1
 rw [Nat.mod_eq_of_lt hlt,hu'] at e
 injection e with e
 subst e
 exact hk
theorem len_succ {α:Type} {l:List α} {n:Nat} (h:l.length=n+1):∃x l',l=x::l'∧l'.length=n:=by
 cases l with
 |nil=>simp at h
 |cons x l'=>exact ⟨x,l',rfl,by simpa using h⟩
theorem len_zero {α:Type} {l:List α} (h:l.length=0):l=[]:=List.length_eq_zero_iff.1 h
theorem cell_int {P:Program} {w:World} {r:Reach} {b:Nat} {u:TypeId} {k:IntKind} {x:Value} (hu:P.underlying u=some (.int k)) (h:Cell.okWide P w r b u x):∃n,x= .int k n∧k.has n:=by
 unfold Cell.okWide at h
 rw [hu] at h
 cases x<;>simp [Cell.ok,hu] at h
 obtain ⟨rfl,h⟩:=h
 exact ⟨_,rfl,h⟩
theorem cell_bool {P:Program} {w:World} {r:Reach} {b:Nat} {u:TypeId} {x:Value} (hu:P.underlying u=some .bool) (h:Cell.okWide P w r b u x):∃n,x= .bool n:=by
 unfold Cell.okWide at h
 rw [hu] at h
 cases x<;>simp [Cell.ok,hu] at h
 exact ⟨_,rfl⟩
theorem trod_lt {H:Type} {enc:TypeId×Value→H} {P:Program} {w:World} {spare:Nat→Bool} {held:Bool} {t:TypeId} {v:Value} {d:DataW H} {ps:List MemPlace} (h:DataW.Trod enc P w 0 spare held t v d ps):∀x∈ps,x.block<w.heap.size:=by
 obtain ⟨m,hm⟩:=h
 exact DataW.trod_lt m _ _ _ hm
end RX
end
section
namespace RX
open Go Go.RowKit
def hasS (P:Program):Nat→TypeId→Nat→Bool
 |0,_,_=>false
 | n +1,t,i=>
  match P.underlying t with
  |some .string=>Nat.beq i 0
  | some (.struct fs)=>(List.range fs.size).any fun j=>match fs[j]? with
   |some f=>decide (f.offset≤i)&&(decide (i<f.offset+P.cellsOf f.type)&&hasS P n f.type (i-f.offset))
   |none=>false
  |some (.array m e)=>decide (i<m*P.cellsOf e)&&hasS P n e (i%P.cellsOf e)
  |_=>false
theorem IM {H:Type} {d:DataW H} :∀ {l:List (DataW H)},d∈l→Go.Proofs.YtphlckkbihmlnaaGreatDoor.Rows.uptoBulk d≤Go.Proofs.YtphlckkbihmlnaaGreatDoor.Rows.uptoBulkAll l
 |[],h=>by cases h
 | x::r,h=>by
  simp only [Go.Proofs.YtphlckkbihmlnaaGreatDoor.Rows.uptoBulkAll]
  rcases List.mem_cons.1 h with rfl|h
  ·omega
  ·have:=IM h; omega
theorem Q4 {α:Type} {l:List α} {o c i:Nat} (h1:o≤i) (h2:i<o+c):((l.drop o).take c)[i-o]? =l[i]? :=by
 rw [List.getElem?_take_of_lt (by omega),List.getElem?_drop]
 congr 1; omega
theorem Kx {H:Type} {enc:TypeId×Value→H} {P:Program} {w:World} {base:Nat} {spare:Nat→Bool} {held:Bool} {s:ByteArray} :∀(n:Nat) (t:TypeId) (i:Nat),hasS P n t i=true→∀(fuel:Nat) (cs:List Value) (x:DataW H×List MemPlace),DataW.trod enc P w base spare held fuel t cs=some x→cs[i]? =some (.string s)→s.size+1≤Go.Proofs.YtphlckkbihmlnaaGreatDoor.Rows.uptoBulk x.1
 |0,_,_,h=>by cases h
 | n + 1,t,i,h=>fun fuel cs x hx hi=>by
  unfold hasS at h
  split at h
  ·rename_i hu
   obtain ⟨s',hc,rfl,_⟩:=DataW.trod_string hu hx
   have h0:=Nat.eq_of_beq_eq_true h
   subst h0 hc
   simp only [List.getElem?_cons_zero,Option.some.injEq,Value.string.injEq] at hi
   subst hi
   simp only [Go.Proofs.YtphlckkbihmlnaaGreatDoor.Rows.uptoBulk]
   exact Nat.le_refl _
  ·rename_i fs hu
   obtain ⟨ys,m,_,rfl,hl,hlen,hf⟩:=DataW.trod_struct hu hx
   rw [List.any_eq_true] at h
   obtain ⟨j,hj,h⟩:=h
   split at h
   ·rename_i f hfj
    simp only [Bool.and_eq_true,decide_eq_true_eq] at h
    obtain ⟨h1,h2,h3⟩:=h
    have hjl:j<fs.size:=(Array.getElem?_eq_some_iff.1 hfj).1
    have hy:=hf j f hfj
    have hj':ys[j]? =some (ys[j]'(by omega)):=List.getElem?_eq_getElem (by omega)
    rw [hj'] at hy
    have:=Kx n f.type (i-f.offset) h3 _ _ _ hy (by rw [Q4 h1 h2]; exact hi)
    have hm:=IM (d:=(ys[j]'(by omega)).1) (l:=ys.map (·.1)) (List.mem_map.2 ⟨_,List.getElem_mem _,rfl⟩)
    simp only [Go.Proofs.YtphlckkbihmlnaaGreatDoor.Rows.uptoBulk]
    omega
   ·cases h
  ·rename_i m e hu
   obtain ⟨ys,k,_,rfl,hl,hlen,hf⟩:=DataW.trod_array hu hx
   simp only [Bool.and_eq_true,decide_eq_true_eq] at h
   obtain ⟨h1,h2⟩:=h
   have hc:0<P.cellsOf e:=Nat.pos_of_ne_zero fun h0=>by rw [h0,Nat.mul_zero] at h1; omega
   have hd:i/P.cellsOf e<m:=Nat.div_lt_of_lt_mul (by rw [Nat.mul_comm]; exact h1)
   have hy:=hf (i/P.cellsOf e) hd
   have hj':ys[i/P.cellsOf e]? =some (ys[i/P.cellsOf e]'(by omega)):=List.getElem?_eq_getElem (by omega)
   rw [hj'] at hy
   have e1:i%P.cellsOf e=i-i/P.cellsOf e*P.cellsOf e:=by
    have:=Nat.div_add_mod i (P.cellsOf e)
    rw [Nat.mul_comm] at this
    omega
   have l1:i/P.cellsOf e*P.cellsOf e≤i:=Nat.div_mul_le_self i _
   have l2:i<i/P.cellsOf e*P.cellsOf e+P.cellsOf e:=by
    have:=Nat.mod_lt i hc
    omega
   have:=Kx n e (i%P.cellsOf e) h2 _ _ _ hy (by rw [e1,Q4 l1 l2]; exact hi)
   have hm:=IM (d:=(ys[i/P.cellsOf e]'(by omega)).1) (l:=ys.map (·.1)) (List.mem_map.2 ⟨_,List.getElem_mem _,rfl⟩)
   simp only [Go.Proofs.YtphlckkbihmlnaaGreatDoor.Rows.uptoBulk]
   omega
  ·cases h
theorem cell_string {P:Program} {w:World} {r:Reach} {b:Nat} {u:TypeId} {x:Value} (hu:P.underlying u=some .string) (h:Cell.okWide P w r b u x):∃n,x= .string n:=by
 unfold Cell.okWide at h
 rw [hu] at h
 cases x<;>simp [Cell.ok,hu] at h
 exact ⟨_,rfl⟩
theorem size_le {H:Type} {enc:TypeId×Value→H} {P:Program} {w:World} {spare:Nat→Bool} {held:Bool} {t:TypeId} {cs:List Value} {d:DataW H} {ps:List MemPlace} {ds:List (DataW H)} {s:ByteArray} {B:Nat} (h:DataW.Trod enc P w 0 spare held t (.agg ⟨cs⟩) d ps) (hd:d∈ds) (hB:Go.Proofs.YtphlckkbihmlnaaGreatDoor.Rows.uptoBulkAll ds≤B) (n i:Nat) (hh:hasS P n t i=true) (hi:cs[i]? =some (.string s)):s.size≤B:=by
 obtain ⟨fuel,hf⟩:=h
 have h1:=Kx n t i hh fuel cs _ hf hi
 have h2:=IM hd
 simp only at h1
 omega
end RX
end
