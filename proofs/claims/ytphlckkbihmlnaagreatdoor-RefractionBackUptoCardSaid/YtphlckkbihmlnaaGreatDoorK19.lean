/- A part of what the law's proof leans on. PACKED BY pack.py of this repo. -/
import Derived.Test.YtphlckkbihmlnaaGreatDoorK18
import Derived.Test.YtphlckkbihmlnaaGreatDoorRows
set_option linter.unusedVariables false
set_option linter.unusedSimpArgs false
set_option linter.unusedSectionVars false
set_option linter.defProp false
set_option maxRecDepth 100000
open Go.IntKind (i64 u64 u32)
section
namespace Go.Proofs.YtphlckkbihmlnaaGreatDoor.G
open Go Go.Proofs Go.RowKit RX
section
variable {R:Type} (BN:Int→Int→(Int×Int×Int)) (AP:Int→Int→Int→Int→(Int×Int×Int)) (BT:Int→Int→(Int×Int×Int)) (s0_0:Int) (AJ:Int) (AK:Int)
def Bl.K {R:Type} (BN:Int→Int→(Int×Int×Int)) (AP:Int→Int→Int→Int→(Int×Int×Int)) (BT:Int→Int→(Int×Int×Int)) (s0_0:Int) (AJ:Int) (AK:Int) (k:Int×Int×Int→R):R:=
 bif s0_0 !=0 then k (AJ,AK,s0_0) else
 let t0:=BN AJ AK
 let t1:=AP s0_0 t0.1 t0.2.1 t0.2.2
 k (t1.1,t1.2.1,t1.2.2)
theorem Bl.run:xfn Tryz.prog ⟨[(23,At.sp BN),(30,Aj.sp AP),(42,Bp.sp BT)],[],[]⟩ [] 60 Tryz.f22 [.pointer (some ⟨0,0,none⟩),.func (.func 23) ⟨[]⟩ ⟨[]⟩,.agg ⟨[.int .i64 AJ,.int .i64 AK]⟩] [.cs [.int .i64 s0_0] 61]=Bl.K BN AP BT s0_0 AJ AK (fun r=>some (.agg ⟨[.int .i64 r.1,.int .i64 r.2.1]⟩,[.cs [.int .i64 r.2.2] 61])):=by kernel_rfl
def Bl:Int×Int×Int:=Bl.K At Aj Bp s0_0 AJ AK id
theorem Bl.nat (k:Int×Int×Int→R):Bl.K BN AP BT s0_0 AJ AK k=k (Bl.K BN AP BT s0_0 AJ AK id):=by
 simp only [Bl.K,acond k,id_eq]
theorem Bl.eq (s a b:Int):Bl s a b=st s a b (isq a b):=by
 simp only [Bl,Bl.K,id_eq,At.eq,Aj.eq,st]
 by_cases hs:s=0
 ·subst hs; rfl
 ·simp only [Em hs,cond_true]
end
section
variable {R:Type} (BN:Int→Int→(Int×Int×Int)) (AP:Int→Int→Int→Int→(Int×Int×Int)) (BT:Int→Int→(Int×Int×Int)) (s0_0:Int) (AJ:Int) (AK:Int)
def Cp.K {R:Type} (BN:Int→Int→(Int×Int×Int)) (AP:Int→Int→Int→Int→(Int×Int×Int)) (BT:Int→Int→(Int×Int×Int)) (s0_0:Int) (AJ:Int) (AK:Int) (k:Int×Int×Int→R):R:=
 bif s0_0 !=0 then k (AJ,AK,s0_0) else
 let t0:=BT AJ AK
 let t1:=AP s0_0 t0.1 t0.2.1 t0.2.2
 k (t1.1,t1.2.1,t1.2.2)
theorem Cp.run:xfn Tryz.prog ⟨[(23,At.sp BN),(30,Aj.sp AP),(42,Bp.sp BT)],[],[]⟩ [] 60 Tryz.f22 [.pointer (some ⟨0,0,none⟩),.func (.func 42) ⟨[]⟩ ⟨[]⟩,.agg ⟨[.int .i64 AJ,.int .i64 AK]⟩] [.cs [.int .i64 s0_0] 61]=Cp.K BN AP BT s0_0 AJ AK (fun r=>some (.agg ⟨[.int .i64 r.1,.int .i64 r.2.1]⟩,[.cs [.int .i64 r.2.2] 61])):=by kernel_rfl
def Cp:Int×Int×Int:=Cp.K At Aj Bp s0_0 AJ AK id
theorem Cp.nat (k:Int×Int×Int→R):Cp.K BN AP BT s0_0 AJ AK k=k (Cp.K BN AP BT s0_0 AJ AK id):=by
 simp only [Cp.K,acond k,id_eq]
end
theorem Gi.ok:SOK Tryz.prog 22 (Gi.sp Bl Cp):=by
 refine Cu (E:=⟨[(23,At.sp At),(30,Aj.sp Aj),(42,Bp.sp Bp)],[],[]⟩) (L:=[]) ⟨(Aa At.ok (Aa Aj.ok (Aa Bp.ok Ac))),Ai,Ad,Ah⟩ 60 Tryz.func22 (by decide) rfl Bv fun vs bl v bl' h=> ?_
 unfold Gi.sp at h
 split at h
 ·rename_i AJ AK s0_0
  simp only [zS,zP,true_and] at h
  obtain ⟨rfl,rfl⟩:=h
  refine ⟨?_,by simp [okV,Nat.blt],clo_spec 8 _ (by kernel_rfl),Ay (by kernel_rfl)⟩
  refine (Bl.run At Aj Bp s0_0 AJ AK).trans ?_
  refine (Bl.nat At Aj Bp s0_0 AJ AK _).trans ?_
  kernel_rfl
 ·rename_i AJ AK s0_0
  simp only [zS,zP,true_and] at h
  obtain ⟨rfl,rfl⟩:=h
  refine ⟨?_,by simp [okV,Nat.blt],clo_spec 8 _ (by kernel_rfl),Ay (by kernel_rfl)⟩
  refine (Cp.run At Aj Bp s0_0 AJ AK).trans ?_
  refine (Cp.nat At Aj Bp s0_0 AJ AK _).trans ?_
  kernel_rfl
 ·cases h
section
variable {R:Type} (BL:Int→Int→Int→Int→(Int×Int×Int)) (AU:Int→Int→Int→Int→Int→(Int×Int×Int)) (AR:Int→Int→Int→Int→Int→(Int×Int×Int)) (AS:Int→Int→Int→Int→Int→(Int×Int×Int)) (AT:Int→Int→Int→Int→Int→(Int×Int×Int)) (s0_0:Int) (A5:Int) (A4:Int) (AJ:Int) (AK:Int)
def Da.K {R:Type} (BL:Int→Int→Int→Int→(Int×Int×Int)) (AU:Int→Int→Int→Int→Int→(Int×Int×Int)) (AR:Int→Int→Int→Int→Int→(Int×Int×Int)) (AS:Int→Int→Int→Int→Int→(Int×Int×Int)) (AT:Int→Int→Int→Int→Int→(Int×Int×Int)) (s0_0:Int) (A5:Int) (A4:Int) (AJ:Int) (AK:Int) (k:Int×Int×Int→R):R:=
 let t0:=AT s0_0 A5 A4 AJ AK
 k (t0.1,t0.2.1,t0.2.2)
theorem Da.run:xfn Tryz.prog ⟨[(54,Aw.sp BL),(65,Ev.sp AU AR AS AT)],[],[]⟩ [] 60 Tryz.f25 [.pointer (some ⟨0,0,none⟩),.agg ⟨[.int .i64 A5,.int .i64 A4]⟩,.agg ⟨[.int .i64 AJ,.int .i64 AK]⟩] [.cs [.int .i64 s0_0] 61]=Da.K BL AU AR AS AT s0_0 A5 A4 AJ AK (fun r=>some (.agg ⟨[.int .i64 r.1,.int .i64 r.2.1]⟩,[.cs [.int .i64 r.2.2] 61])):=by kernel_rfl
def Da:Int×Int×Int:=Da.K Aw Ao Al Am An s0_0 A5 A4 AJ AK id
theorem Da.nat (k:Int×Int×Int→R):Da.K BL AU AR AS AT s0_0 A5 A4 AJ AK k=k (Da.K BL AU AR AS AT s0_0 A5 A4 AJ AK id):=by
 simp only [Da.K,acond k,id_eq]
theorem Da.eq (s a b c d:Int):Da s a b c d=st s a b (idiv a b c d):=by
 simp only [Da,Da.K,id_eq,An.eq]
end
theorem Da.ok:SOK Tryz.prog 25 (Da.sp Da):=by
 refine Cu (E:=⟨[(54,Aw.sp Aw),(65,Ev.sp Ao Al Am An)],[],[]⟩) (L:=[]) ⟨(Aa Aw.ok (Aa Ev.ok Ac)),Ai,Ad,Ah⟩ 60 Tryz.func25 (by decide) rfl Bv fun vs bl v bl' h=> ?_
 unfold Da.sp at h
 split at h
 ·rename_i A5 A4 AJ AK s0_0
  simp only [zS,zP,true_and] at h
  obtain ⟨rfl,rfl⟩:=h
  refine ⟨?_,by simp [okV,Nat.blt],clo_spec 8 _ (by kernel_rfl),Ay (by kernel_rfl)⟩
  refine (Da.run Aw Ao Al Am An s0_0 A5 A4 AJ AK).trans ?_
  refine (Da.nat Aw Ao Al Am An s0_0 A5 A4 AJ AK _).trans ?_
  kernel_rfl
 ·cases h
section
variable {R:Type} (AI:Int→Int→(Bool)) (C8:Int→Int→Int→(Int×Int×Int)) (CR:Int→Int→Int→(Int×Int×Int)) (BN:Int→Int→(Int×Int×Int)) (C3:Int→Int→Int→Int→Int→(Int×Int×Int)) (E9:Int→Int→Int→Int→Int→(Int×Int×Int)) (ET:Int→Int→Int→Int→Int→(Int×Int×Int)) (C1:Int→Int→Int→Int→Int→Int→Int→(Int×Int×Int×Int×Int×Int×Int×Int)) (A2:Int) (A3:Int) (A5:Int) (A4:Int)
def Ep.K {R:Type} (AI:Int→Int→(Bool)) (C8:Int→Int→Int→(Int×Int×Int)) (CR:Int→Int→Int→(Int×Int×Int)) (BN:Int→Int→(Int×Int×Int)) (C3:Int→Int→Int→Int→Int→(Int×Int×Int)) (E9:Int→Int→Int→Int→Int→(Int×Int×Int)) (ET:Int→Int→Int→Int→Int→(Int×Int×Int)) (C1:Int→Int→Int→Int→Int→Int→Int→(Int×Int×Int×Int×Int×Int×Int×Int)) (A2:Int) (A3:Int) (A5:Int) (A4:Int) (k:Int×Int×Int×Int×Int×Int×Int→R):R:=
 let t0:=AI A2 A3
 bif !t0 then k (0,0,0,0,0,0,1) else
 let t1:=AI A5 A4
 bif !t1 then k (0,0,0,0,0,0,1) else
 let t2:=C8 0 A2 A3
 let t3:=C8 t2.2.2 A5 A4
 let t4:=C3 t3.2.2 t2.1 t2.2.1 t3.1 t3.2.1
 let t5:=C3 t4.2.2 16777216 16777216 t4.1 t4.2.1
 let t6:=C3 t5.2.2 A2 A3 A2 A3
 let t7:=E9 t6.2.2 t6.1 t6.2.1 t5.1 t5.2.1
 let t8:=C3 t7.2.2 A5 A4 A5 A4
 let t9:=E9 t8.2.2 t8.1 t8.2.1 t5.1 t5.2.1
 let t10:=ET t9.2.2 t4.1 t4.2.1 16777216 16777216
 let t11:=E9 t10.2.2 t10.1 t10.2.1 t5.1 t5.2.1
 let t12:=C1 t11.2.2 t7.1 t7.2.1 t9.1 t9.2.1 t11.1 t11.2.1
 k (t12.1,t12.2.1,t12.2.2.1,t12.2.2.2.1,t12.2.2.2.2.1,t12.2.2.2.2.2.1,t12.2.2.2.2.2.2.1)
theorem Ep.run:xfn Tryz.prog ⟨[(21,Ab.sp AI),(22,Gi.sp C8 CR),(23,At.sp BN),(24,Bj.sp C3),(25,Da.sp E9),(26,Cz.sp ET),(27,Ba.sp C1)],[],[]⟩ [] 60 Tryz.f7 [.agg ⟨[.int .i64 A2,.int .i64 A3]⟩,.agg ⟨[.int .i64 A5,.int .i64 A4]⟩] []=Ep.K AI C8 CR BN C3 E9 ET C1 A2 A3 A5 A4 (fun r=>some (.tuple ⟨[.agg ⟨[.int .i64 r.1,.int .i64 r.2.1,.int .i64 r.2.2.1,.int .i64 r.2.2.2.1,.int .i64 r.2.2.2.2.1,.int .i64 r.2.2.2.2.2.1]⟩,.int .i64 r.2.2.2.2.2.2]⟩,[])):=by kernel_rfl
def Ep:Int×Int×Int×Int×Int×Int×Int:=Ep.K Ab Bl Cp At Bj Da Cz Ba A2 A3 A5 A4 id
theorem Ep.nat (k:Int×Int×Int×Int×Int×Int×Int→R):Ep.K AI C8 CR BN C3 E9 ET C1 A2 A3 A5 A4 k=k (Ep.K AI C8 CR BN C3 E9 ET C1 A2 A3 A5 A4 id):=by
 simp only [Ep.K,acond k,id_eq]
end
def dof (u v:I2):Re Bx:=bif V2 u then (bif V2 v then (sqR u).bind fun p=>(sqR v).bind fun q=>(addR p q).bind fun s=>(addR one2 s).bind fun w=>(addR u u).bind fun x=>(divR x w).bind fun X=>(addR v v).bind fun y=>(divR y w).bind fun Y=>(subR s one2).bind fun z=>(divR z w).bind fun Z=> .ok (X,Y,Z) else .er 1) else .er 1
theorem dof_nz (u v:I2):Nz (dof u v):=Nz.cond (Nz.cond ((Nz.t3 _).bind fun _=>(Nz.t3 _).bind fun _=>(Nz.t3 _).bind fun _=>(Nz.t3 _).bind fun _=>(Nz.t3 _).bind fun _=>(Nz.t3 _).bind fun _=>(Nz.t3 _).bind fun _=>(Nz.t3 _).bind fun _=>(Nz.t3 _).bind fun _=>(Nz.t3 _).bind fun _=>Nz.ok) Nz.one) Nz.one
theorem Ep.eq (a0 a1 b0 b1:Int):Ep a0 a1 b0 b1=o7 (dof (a0,a1) (b0,b1)):=by
 simp only [Ep,Ep.K,id_eq,Ab.eq,Bl.eq,Bj.eq,Cz.eq,Da.eq,Ba,Ba.K,id_eq,dof,one2,sqR,addR,subR,divR,V2]
 cases hV0:V a0 a1 with
 | false=>
  simp only [hV0,st0,kr0,st70,Eg,Cm,Cn,o7,o3,o2,o11,Ej,kp0,cond_true,cond_false,zN,Bool.not_false,Bool.false_and,Bool.and_false,Bool.true_and,Bool.and_true,bne_self_eq_false,beq_self_eq_true,if_true,if_false]
 | true=>
  cases hV1:V b0 b1 with
  | false=>
   simp only [hV0,hV1,st0,kr0,st70,Eg,Cm,Cn,o7,o3,o2,o11,Ej,kp0,cond_true,cond_false,zN,Bool.not_false,Bool.false_and,Bool.and_false,Bool.true_and,Bool.and_true,bne_self_eq_false,beq_self_eq_true,if_true,if_false]
  | true=>
   rcases t3c (isq a0 a1) with ⟨p0,p1,h0⟩|⟨p0,p1,e0,n0,h0⟩
   ·simp only [hV0, hV1,h0,st0,kr0,st70,Eg,Cm,Cn,o7,o3,o2,o11,Ej,kp0,cond_true,cond_false,zN,Bool.not_false,Bool.false_and,Bool.and_false,Bool.true_and,Bool.and_true,bne_self_eq_false,beq_self_eq_true,if_true,if_false]
    rcases t3c (isq b0 b1) with ⟨q0,q1,h1⟩|⟨q0,q1,e1,n1,h1⟩
    ·simp only [h1,st0,kr0,st70,Eg,Cm,Cn,o7,o3,o2,o11,Ej,kp0,cond_true,cond_false,zN,Bool.not_false,Bool.false_and,Bool.and_false,Bool.true_and,Bool.and_true,bne_self_eq_false,beq_self_eq_true,if_true,if_false]
     rcases t3c (iadd p0 p1 q0 q1) with ⟨s0,s1,h2⟩|⟨s0,s1,e2,n2,h2⟩
     ·simp only [h2,st0,kr0,st70,Eg,Cm,Cn,o7,o3,o2,o11,Ej,kp0,cond_true,cond_false,zN,Bool.not_false,Bool.false_and,Bool.and_false,Bool.true_and,Bool.and_true,bne_self_eq_false,beq_self_eq_true,if_true,if_false]
      rcases t3c (iadd 16777216 16777216 s0 s1) with ⟨w0,w1,h3⟩|⟨w0,w1,e3,n3,h3⟩
      ·simp only [h3,st0,kr0,st70,Eg,Cm,Cn,o7,o3,o2,o11,Ej,kp0,cond_true,cond_false,zN,Bool.not_false,Bool.false_and,Bool.and_false,Bool.true_and,Bool.and_true,bne_self_eq_false,beq_self_eq_true,if_true,if_false]
       rcases t3c (iadd a0 a1 a0 a1) with ⟨x0,x1,h4⟩|⟨x0,x1,e4,n4,h4⟩
       ·simp only [h4,st0,kr0,st70,Eg,Cm,Cn,o7,o3,o2,o11,Ej,kp0,cond_true,cond_false,zN,Bool.not_false,Bool.false_and,Bool.and_false,Bool.true_and,Bool.and_true,bne_self_eq_false,beq_self_eq_true,if_true,if_false]
        rcases t3c (idiv x0 x1 w0 w1) with ⟨X0,X1,h5⟩|⟨X0,X1,e5,n5,h5⟩
        ·simp only [h5,st0,kr0,st70,Eg,Cm,Cn,o7,o3,o2,o11,Ej,kp0,cond_true,cond_false,zN,Bool.not_false,Bool.false_and,Bool.and_false,Bool.true_and,Bool.and_true,bne_self_eq_false,beq_self_eq_true,if_true,if_false]
         rcases t3c (iadd b0 b1 b0 b1) with ⟨y0,y1,h6⟩|⟨y0,y1,e6,n6,h6⟩
         ·simp only [h6,st0,kr0,st70,Eg,Cm,Cn,o7,o3,o2,o11,Ej,kp0,cond_true,cond_false,zN,Bool.not_false,Bool.false_and,Bool.and_false,Bool.true_and,Bool.and_true,bne_self_eq_false,beq_self_eq_true,if_true,if_false]
          rcases t3c (idiv y0 y1 w0 w1) with ⟨Y0,Y1,h7⟩|⟨Y0,Y1,e7,n7,h7⟩
          ·simp only [h7,st0,kr0,st70,Eg,Cm,Cn,o7,o3,o2,o11,Ej,kp0,cond_true,cond_false,zN,Bool.not_false,Bool.false_and,Bool.and_false,Bool.true_and,Bool.and_true,bne_self_eq_false,beq_self_eq_true,if_true,if_false]
           rcases t3c (isub s0 s1 16777216 16777216) with ⟨z0,z1,h8⟩|⟨z0,z1,e8,n8,h8⟩
           ·simp only [h8,st0,kr0,st70,Eg,Cm,Cn,o7,o3,o2,o11,Ej,kp0,cond_true,cond_false,zN,Bool.not_false,Bool.false_and,Bool.and_false,Bool.true_and,Bool.and_true,bne_self_eq_false,beq_self_eq_true,if_true,if_false]
            rcases t3c (idiv z0 z1 w0 w1) with ⟨Z0,Z1,h9⟩|⟨Z0,Z1,e9,n9,h9⟩
            ·simp only [h9,st0,kr0,st70,Eg,Cm,Cn,o7,o3,o2,o11,Ej,kp0,cond_true,cond_false,zN,Bool.not_false,Bool.false_and,Bool.and_false,Bool.true_and,Bool.and_true,bne_self_eq_false,beq_self_eq_true,if_true,if_false]
            ·simp only [h9,stE n9,krE n9,st7E n9,GX n9,Em n9,Fa n9,kpn _ n9,st0,kr0,st70,Eg,Cm,Cn,o7,o3,o2,o11,Ej,kp0,cond_true,cond_false,zN,Bool.not_false,Bool.false_and,Bool.and_false,Bool.true_and,Bool.and_true,bne_self_eq_false,beq_self_eq_true,if_true,if_false]
           ·simp only [h8,stE n8,krE n8,st7E n8,GX n8,Em n8,Fa n8,kpn _ n8,st0,kr0,st70,Eg,Cm,Cn,o7,o3,o2,o11,Ej,kp0,cond_true,cond_false,zN,Bool.not_false,Bool.false_and,Bool.and_false,Bool.true_and,Bool.and_true,bne_self_eq_false,beq_self_eq_true,if_true,if_false]
          ·simp only [h7,stE n7,krE n7,st7E n7,GX n7,Em n7,Fa n7,kpn _ n7,st0,kr0,st70,Eg,Cm,Cn,o7,o3,o2,o11,Ej,kp0,cond_true,cond_false,zN,Bool.not_false,Bool.false_and,Bool.and_false,Bool.true_and,Bool.and_true,bne_self_eq_false,beq_self_eq_true,if_true,if_false]
         ·simp only [h6,stE n6,krE n6,st7E n6,GX n6,Em n6,Fa n6,kpn _ n6,st0,kr0,st70,Eg,Cm,Cn,o7,o3,o2,o11,Ej,kp0,cond_true,cond_false,zN,Bool.not_false,Bool.false_and,Bool.and_false,Bool.true_and,Bool.and_true,bne_self_eq_false,beq_self_eq_true,if_true,if_false]
        ·simp only [h5,stE n5,krE n5,st7E n5,GX n5,Em n5,Fa n5,kpn _ n5,st0,kr0,st70,Eg,Cm,Cn,o7,o3,o2,o11,Ej,kp0,cond_true,cond_false,zN,Bool.not_false,Bool.false_and,Bool.and_false,Bool.true_and,Bool.and_true,bne_self_eq_false,beq_self_eq_true,if_true,if_false]
       ·simp only [h4,stE n4,krE n4,st7E n4,GX n4,Em n4,Fa n4,kpn _ n4,st0,kr0,st70,Eg,Cm,Cn,o7,o3,o2,o11,Ej,kp0,cond_true,cond_false,zN,Bool.not_false,Bool.false_and,Bool.and_false,Bool.true_and,Bool.and_true,bne_self_eq_false,beq_self_eq_true,if_true,if_false]
      ·simp only [h3,stE n3,krE n3,st7E n3,GX n3,Em n3,Fa n3,kpn _ n3,st0,kr0,st70,Eg,Cm,Cn,o7,o3,o2,o11,Ej,kp0,cond_true,cond_false,zN,Bool.not_false,Bool.false_and,Bool.and_false,Bool.true_and,Bool.and_true,bne_self_eq_false,beq_self_eq_true,if_true,if_false]
     ·simp only [h2,stE n2,krE n2,st7E n2,GX n2,Em n2,Fa n2,kpn _ n2,st0,kr0,st70,Eg,Cm,Cn,o7,o3,o2,o11,Ej,kp0,cond_true,cond_false,zN,Bool.not_false,Bool.false_and,Bool.and_false,Bool.true_and,Bool.and_true,bne_self_eq_false,beq_self_eq_true,if_true,if_false]
    ·simp only [h1,stE n1,krE n1,st7E n1,GX n1,Em n1,Fa n1,kpn _ n1,st0,kr0,st70,Eg,Cm,Cn,o7,o3,o2,o11,Ej,kp0,cond_true,cond_false,zN,Bool.not_false,Bool.false_and,Bool.and_false,Bool.true_and,Bool.and_true,bne_self_eq_false,beq_self_eq_true,if_true,if_false]
   ·simp only [hV0,hV1,h0,stE n0,krE n0,st7E n0,GX n0,Em n0,Fa n0,kpn _ n0,st0,kr0,st70,Eg,Cm,Cn,o7,o3,o2,o11,Ej,kp0,cond_true,cond_false,zN,Bool.not_false,Bool.false_and,Bool.and_false,Bool.true_and,Bool.and_true,bne_self_eq_false,beq_self_eq_true,if_true,if_false]
theorem Ep.ok:SOK Tryz.prog 7 (Ep.sp Ep):=by
 refine Cu (E:=⟨[(21,Ab.sp Ab),(22,Gi.sp Bl Cp),(23,At.sp At),(24,Bj.sp Bj),(25,Da.sp Da),(26,Cz.sp Cz),(27,Ba.sp Ba)],[],[]⟩) (L:=[]) ⟨(Aa Ab.ok (Aa Gi.ok (Aa At.ok (Aa Bj.ok (Aa Da.ok (Aa Cz.ok (Aa Ba.ok Ac))))))),Ai,Ad,Ah⟩ 60 Tryz.func7 (by decide) rfl Bv fun vs bl v bl' h=> ?_
 unfold Ep.sp at h
 split at h
 ·rename_i A2 A3 A5 A4
  simp only [zS,zP,true_and] at h
  obtain ⟨rfl,rfl⟩:=h
  refine ⟨?_,by simp [okV,Nat.blt],clo_spec 8 _ (by kernel_rfl),Ay (by kernel_rfl)⟩
  refine (Ep.run Ab Bl Cp At Bj Da Cz Ba A2 A3 A5 A4).trans ?_
  refine (Ep.nat Ab Bl Cp At Bj Da Cz Ba A2 A3 A5 A4 _).trans ?_
  kernel_rfl
 ·cases h
section
variable {R:Type} (A2:Int) (A3:Int)
def Ck.K (k:(Bool)→R):R:=
 bif decide (-1073741824≤A2) then bif decide (A2≤A3) then k (decide (A3≤1073741824)) else k (false) else k (false)
theorem Ck.run:xfn Tryz.prog ⟨[],[],[]⟩ [] 60 Tryz.f76 [.agg ⟨[.int .i64 A2,.int .i64 A3]⟩] []=Ck.K A2 A3 (fun r=>some (.bool r,[])):=by kernel_rfl
def Ck:Bool:=Ck.K A2 A3 id
theorem Ck.nat (k:(Bool)→R):Ck.K A2 A3 k=k (Ck.K A2 A3 id):=by
 simp only [Ck.K,acond k,id_eq]
theorem Ck.eq (a b:Int):Ck a b=V a b:=by
 simp only [Ck,Ck.K,id_eq,V]
 by_cases h1: -1073741824≤a<;>by_cases h2:a≤b<;>by_cases h3:b≤1073741824<;>simp [h1,h2,h3]
end
theorem Ck.ok:SOK Tryz.prog 76 (Ck.sp Ck):=by
 refine Cu (E:=⟨[],[],[]⟩) (L:=[]) ⟨Ac,Ai,Ad,Ah⟩ 60 Tryz.func76 (by decide) rfl Bv fun vs bl v bl' h=> ?_
 unfold Ck.sp at h
 split at h
 ·rename_i A2 A3
  simp only [zS,zP,true_and] at h
  obtain ⟨rfl,rfl⟩:=h
  refine ⟨?_,by simp [okV,Nat.blt],clo_spec 8 _ (by kernel_rfl),Ay (by kernel_rfl)⟩
  refine (Ck.run A2 A3).trans ?_
  refine (Ck.nat A2 A3 _).trans ?_
  kernel_rfl
 ·cases h
section
variable {R:Type} (D8:Int→Int→(Bool)) (A2:Int) (A3:Int) (A5:Int) (A4:Int)
def Dt.K (k:(Bool)→R):R:=
 let t0:=D8 A2 A3
 bif t0 then
 let t1:=D8 A5 A4
 k (t1) else k (false)
theorem Dt.run:xfn Tryz.prog ⟨[(76,Ck.sp D8)],[],[]⟩ [] 60 Tryz.f32 [.agg ⟨[.int .i64 A2,.int .i64 A3]⟩,.agg ⟨[.int .i64 A5,.int .i64 A4]⟩] []=Dt.K D8 A2 A3 A5 A4 (fun r=>some (.bool r,[])):=by kernel_rfl
def Dt:Bool:=Dt.K Ck A2 A3 A5 A4 id
theorem Dt.nat (k:(Bool)→R):Dt.K D8 A2 A3 A5 A4 k=k (Dt.K D8 A2 A3 A5 A4 id):=by
 simp only [Dt.K,acond k,id_eq]
theorem Dt.eq (a b c d:Int):Dt a b c d=(V a b&&V c d):=by
 simp only [Dt,Dt.K,id_eq,Ck.eq]
 cases V a b<;>simp
end
theorem Dt.ok:SOK Tryz.prog 32 (Dt.sp Dt):=by
 refine Cu (E:=⟨[(76,Ck.sp Ck)],[],[]⟩) (L:=[]) ⟨(Aa Ck.ok Ac),Ai,Ad,Ah⟩ 60 Tryz.func32 (by decide) rfl Bv fun vs bl v bl' h=> ?_
 unfold Dt.sp at h
 split at h
 ·rename_i A2 A3 A5 A4
  simp only [zS,zP,true_and] at h
  obtain ⟨rfl,rfl⟩:=h
  refine ⟨?_,by simp [okV,Nat.blt],clo_spec 8 _ (by kernel_rfl),Ay (by kernel_rfl)⟩
  refine (Dt.run Ck A2 A3 A5 A4).trans ?_
  refine (Dt.nat Ck A2 A3 A5 A4 _).trans ?_
  kernel_rfl
 ·cases h
section
variable {R:Type} (a0:Int) (a1:Int)
def Ap.K (k:(Int)→Option R):Option R:=
 bif decide (a1<0) then bif i64.wrap (0-a1) !=0 then bif decide (i64.wrap (i64.wrap ((i64.wrap (0-a0)).tdiv (i64.wrap (0-a1)))*i64.wrap (0-a1))>i64.wrap (0-a0)) then k (i64.wrap (i64.wrap ((i64.wrap (0-a0)).tdiv (i64.wrap (0-a1)))-1)) else k (i64.wrap ((i64.wrap (0-a0)).tdiv (i64.wrap (0-a1)))) else none else bif a1 !=0 then bif decide (i64.wrap (i64.wrap (a0.tdiv a1)*a1)>a0) then k (i64.wrap (i64.wrap (a0.tdiv a1)-1)) else k (i64.wrap (a0.tdiv a1)) else none
theorem Ap.run:xfn Tryz.prog ⟨[],[],[]⟩ [] 60 Tryz.f33 [.int .i64 a0,.int .i64 a1] []=Ap.K a0 a1 (fun r=>some (.int .i64 r,[])):=by kernel_rfl
def Ap.o:Option (Int):=Ap.K a0 a1 some
def Ap:Int:=(Ap.o a0 a1).getD default
theorem Ap.nat (k:(Int)→Option R):Ap.K a0 a1 k=(Ap.K a0 a1 some).bind k:=by
 simp only [Ap.K,bcond,Option.bind_some,Option.bind_none]
end
theorem KF {a b:Int} (hb:0<b) (h1: -4611686018427387904≤a) (h2:a≤4611686018427387904):(bif decide (i64.wrap (i64.wrap (a.tdiv b)*b)>a) then some (i64.wrap (i64.wrap (a.tdiv b)-1)) else some (i64.wrap (a.tdiv b)))=some (a/b):=by
 have hq:=Iy hb h1 h2
 have hd:a.tdiv b=a/b+if 0≤a∨b∣a then 0 else b.sign:=Int.tdiv_eq_ediv
 rw [Int.sign_eq_one_of_pos hb] at hd
 have hs:=L9 (x:=a) hb
 by_cases hv:0≤a∨b∣a
 ·simp only [hv,if_true,Int.add_zero] at hd
  rw [hd,w64 (n:=a/b) (by omega) (by omega)]
  by_cases ha:0≤a
  ·have:0≤a/b*b:=Int.mul_nonneg (Ru hb ha) (by omega)
   rw [w64 (n:=a/b*b) (by omega) (by omega),decide_eq_false (by omega)]
   rfl
  ·have hv':b∣a:=by rcases hv with h|h; exact absurd h ha; exact h
   have:a/b*b=a:=Int.ediv_mul_cancel hv'
   rw [this,w64 (n:=a) (by omega) (by omega),decide_eq_false (by omega)]
   rfl
 ·simp only [hv,if_false] at hd
  have ha:a<0:=by omega
  have h0:a/b<0:=by
   have:=hs.2
   by_cases h:a/b<0
   ·exact h
   ·have:0≤a/b*b:=Int.mul_nonneg (by omega) (by omega)
    omega
  have e:(a/b+1)*b=a/b*b+b:=by rw [Int.add_mul,Int.one_mul]
  have h3:(a/b+1)*b≤0:=by
   have:=Int.mul_nonneg (a:= -(a/b+1)) (b:=b) (by omega) (by omega)
   rw [Int.neg_mul] at this
   omega
  rw [hd,w64 (n:=a/b+1) (by omega) (by omega),w64 (n:=(a/b+1)*b) (by omega) (by omega),decide_eq_true (by omega),cond_true,Int.add_sub_cancel,w64 (by omega) (by omega)]
theorem Ap.eq {a b:Int} (hb:0<b) (h1: -4611686018427387904≤a) (h2:a≤4611686018427387904):Ap a b=a/b:=by
 have hb0:(b !=0)=true:=by simp; omega
 have h3:¬b<0:=by omega
 simp only [Ap,Ap.o,Ap.K,hb0,h3,decide_false,cond_false,cond_true,KF hb h1 h2]
 rfl
theorem Ap.eqn {a b:Int} (hb:b<0) (hb': -4611686018427387904≤b) (h1: -4611686018427387904≤a) (h2:a≤4611686018427387904):Ap a b= -a/ -b:=by
 have hb0:(-b !=0)=true:=by simp; omega
 have w1:i64.wrap (0-a)= -a:=by rw [Int.zero_sub]; exact w64 (by omega) (by omega)
 have w2:i64.wrap (0-b)= -b:=by rw [Int.zero_sub]; exact w64 (by omega) (by omega)
 simp only [Ap,Ap.o,Ap.K,w1,w2,hb0,hb,decide_true,cond_false,cond_true,KF (a:= -a) (b:= -b) (by omega) (by omega) (by omega)]
 rfl
theorem Ap.ok:SOK Tryz.prog 33 (Ap.sp Ap):=by
 refine Cu (E:=⟨[],[],[]⟩) (L:=[]) ⟨Ac,Ai,Ad,Ah⟩ 60 Tryz.func33 (by decide) rfl Bv fun vs bl v bl' h=> ?_
 unfold Ap.sp at h
 split at h
 ·rename_i a0 a1
  simp only [zS,zP] at h
  obtain ⟨hp,rfl,rfl⟩:=h
  have hr:=Ap.run a0 a1
  rw [Ap.nat] at hr
  obtain ⟨r,h2⟩:=Option.isSome_iff_exists.1 (by (simp only [Ap.o,Ap.K,Ij,Option.isSome_some,Hx]; revert hp; cases decide (a1<0)<;>simp):(Ap.o a0 a1).isSome=true)
  have h3:Ap a0 a1=r:=by unfold Ap; rw [h2]; rfl
  have h4:Ap.K a0 a1 some=some r:=h2
  rw [h4,Option.bind_some] at hr
  rw [h3]
  exact ⟨hr,by simp [okV,Nat.blt],clo_spec 8 _ (by kernel_rfl),Ay (by kernel_rfl)⟩
 ·cases h
section
variable {R:Type} (CP:Int→Int→(Int)) (a0:Int) (a1:Int)
def Bg.K (k:(Int)→Option R):Option R:=
 bif bif decide (a1<0) then i64.wrap (-a1) !=0 else a1 !=0 then
 let t0:=CP (i64.wrap (0-a0)) a1
 k (i64.wrap (0-t0)) else none
theorem Bg.run:xfn Tryz.prog ⟨[(33,Ap.sp CP)],[],[]⟩ [] 60 Tryz.f34 [.int .i64 a0,.int .i64 a1] []=Bg.K CP a0 a1 (fun r=>some (.int .i64 r,[])):=by kernel_rfl
def Bg.o:Option (Int):=Bg.K Ap a0 a1 some
def Bg:Int:=(Bg.o a0 a1).getD default
theorem Bg.nat (k:(Int)→Option R):Bg.K CP a0 a1 k=(Bg.K CP a0 a1 some).bind k:=by
 simp only [Bg.K,bcond,Option.bind_some,Option.bind_none]
theorem Bg.eq {a b:Int} (hb:0<b) (h1: -4611686018427387904≤a) (h2:a≤4611686018427387904):Bg a b=cl a b:=by
 have hb0:(b !=0)=true:=by simp; omega
 have h3:¬b<0:=by omega
 have hq:=Iy (a:= -a) hb (by omega) (by omega)
 simp only [Bg,Bg.o,Bg.K,hb0,h3,decide_false,cond_true,cond_false,Option.getD_some,Int.zero_sub]
 rw [w64 (n:= -a) (by omega) (by omega),Ap.eq hb (by omega) (by omega),w64 (by omega) (by omega)]
 rfl
end
theorem Bg.eqn {a b:Int} (hb:b<0) (hb': -4611686018427387904≤b) (h1: -4611686018427387904≤a) (h2:a≤4611686018427387904):Bg a b=cl (-a) (-b):=by
 have hw:i64.wrap (-b)= -b:=w64 (by omega) (by omega)
 have hb0:(-b !=0)=true:=by simp; omega
 have hq:=Iy (a:=a) (b:= -b) (by omega) (by omega) (by omega)
 simp only [Bg,Bg.o,Bg.K,hb,decide_true,hw,hb0,cond_true,Option.getD_some,Int.zero_sub]
 rw [w64 (n:= -a) (by omega) (by omega),Ap.eqn hb (by omega) (by omega) (by omega),Int.neg_neg,w64 (by omega) (by omega)]
 simp only [cl,Int.neg_neg]
theorem Bg.ok:SOK Tryz.prog 34 (Bg.sp Bg):=by
 refine Cu (E:=⟨[(33,Ap.sp Ap)],[],[]⟩) (L:=[]) ⟨(Aa Ap.ok Ac),Ai,Ad,Ah⟩ 60 Tryz.func34 (by decide) rfl Bv fun vs bl v bl' h=> ?_
 unfold Bg.sp at h
 split at h
 ·rename_i a0 a1
  simp only [zS,zP] at h
  obtain ⟨hp,rfl,rfl⟩:=h
  have hr:=Bg.run Ap a0 a1
  rw [Bg.nat] at hr
  obtain ⟨r,h2⟩:=Option.isSome_iff_exists.1 (by simp [Bg.o,Bg.K,Ij,Hx,hp]:(Bg.o a0 a1).isSome=true)
  have h3:Bg a0 a1=r:=by unfold Bg; rw [h2]; rfl
  have h4:Bg.K Ap a0 a1 some=some r:=h2
  rw [h4,Option.bind_some] at hr
  rw [h3]
  exact ⟨hr,by simp [okV,Nat.blt],clo_spec 8 _ (by kernel_rfl),Ay (by kernel_rfl)⟩
 ·cases h
section
variable {R:Type} (D8:Int→Int→(Bool)) (a0:Int) (a1:Int)
def Db.K (k:Int×Int×Int→R):R:=
 let t0:=D8 a0 a1
 bif !t0 then k (0,0,3) else k (a0,a1,0)
theorem Db.run:xfn Tryz.prog ⟨[(76,Ck.sp D8)],[],[]⟩ [] 60 Tryz.f35 [.int .i64 a0,.int .i64 a1] []=Db.K D8 a0 a1 (fun r=>some (.tuple ⟨[.agg ⟨[.int .i64 r.1,.int .i64 r.2.1]⟩,.int .i64 r.2.2]⟩,[])):=by kernel_rfl
def Db:Int×Int×Int:=Db.K Ck a0 a1 id
theorem Db.nat (k:Int×Int×Int→R):Db.K D8 a0 a1 k=k (Db.K D8 a0 a1 id):=by
 simp only [Db.K,acond k,id_eq]
theorem Db.eq (a b:Int):Db a b=chk a b:=by
 simp only [Db,Db.K,id_eq,Ck.eq,chk]
 cases V a b<;>simp
end
theorem Db.ok:SOK Tryz.prog 35 (Db.sp Db):=by
 refine Cu (E:=⟨[(76,Ck.sp Ck)],[],[]⟩) (L:=[]) ⟨(Aa Ck.ok Ac),Ai,Ad,Ah⟩ 60 Tryz.func35 (by decide) rfl Bv fun vs bl v bl' h=> ?_
 unfold Db.sp at h
 split at h
 ·rename_i a0 a1
  simp only [zS,zP,true_and] at h
  obtain ⟨rfl,rfl⟩:=h
  refine ⟨?_,by simp [okV,Nat.blt],clo_spec 8 _ (by kernel_rfl),Ay (by kernel_rfl)⟩
  refine (Db.run Ck a0 a1).trans ?_
  refine (Db.nat Ck a0 a1 _).trans ?_
  kernel_rfl
 ·cases h
section
variable {R:Type} (FH:Int→Int→Int→Int→(Bool)) (CP:Int→Int→(Int)) (DW:Int→Int→(Int)) (EU:Int→Int→(Int×Int×Int)) (A2:Int) (A3:Int) (A5:Int) (A4:Int)
def Cl.K (k:Int×Int×Int→Option R):Option R:=
 let t0:=FH A2 A3 A5 A4
 bif !t0 then k (0,0,1) else bif decide (A5≤0) then bif decide (A4≥0) then k (0,0,10) else bif bif decide (A5<0) then i64.wrap (-A5) !=0 else A5 !=0 then bif bif decide (A4<0) then i64.wrap (-A4) !=0 else A4 !=0 then bif bif decide (A5<0) then i64.wrap (-A5) !=0 else A5 !=0 then bif bif decide (A4<0) then i64.wrap (-A4) !=0 else A4 !=0 then bif bif decide (A5<0) then i64.wrap (-A5) !=0 else A5 !=0 then bif bif decide (A4<0) then i64.wrap (-A4) !=0 else A4 !=0 then bif bif decide (A5<0) then i64.wrap (-A5) !=0 else A5 !=0 then bif bif decide (A4<0) then i64.wrap (-A4) !=0 else A4 !=0 then
 let t1:=CP (i64.wrap (A3*16777216)) A4
 let t2:=CP (i64.wrap (A3*16777216)) A5
 let t3:=CP (i64.wrap (A2*16777216)) A4
 let t4:=CP (i64.wrap (A2*16777216)) A5
 let t5:=DW (i64.wrap (A3*16777216)) A4
 let t6:=DW (i64.wrap (A3*16777216)) A5
 let t7:=DW (i64.wrap (A2*16777216)) A4
 let t8:=DW (i64.wrap (A2*16777216)) A5
 let t9:=EU (if t1<if t2<if t3<t4 then t3 else t4 then t2 else if t3<t4 then t3 else t4 then t1 else if t2<if t3<t4 then t3 else t4 then t2 else if t3<t4 then t3 else t4) (if t5>if t6>if t7>t8 then t7 else t8 then t6 else if t7>t8 then t7 else t8 then t5 else if t6>if t7>t8 then t7 else t8 then t6 else if t7>t8 then t7 else t8)
 k (t9.1,t9.2.1,t9.2.2) else none else none else none else none else none else none else none else none else bif bif decide (A5<0) then i64.wrap (-A5) !=0 else A5 !=0 then bif bif decide (A4<0) then i64.wrap (-A4) !=0 else A4 !=0 then bif bif decide (A5<0) then i64.wrap (-A5) !=0 else A5 !=0 then bif bif decide (A4<0) then i64.wrap (-A4) !=0 else A4 !=0 then bif bif decide (A5<0) then i64.wrap (-A5) !=0 else A5 !=0 then bif bif decide (A4<0) then i64.wrap (-A4) !=0 else A4 !=0 then bif bif decide (A5<0) then i64.wrap (-A5) !=0 else A5 !=0 then bif bif decide (A4<0) then i64.wrap (-A4) !=0 else A4 !=0 then
 let t10:=CP (i64.wrap (A3*16777216)) A4
 let t11:=CP (i64.wrap (A3*16777216)) A5
 let t12:=CP (i64.wrap (A2*16777216)) A4
 let t13:=CP (i64.wrap (A2*16777216)) A5
 let t14:=DW (i64.wrap (A3*16777216)) A4
 let t15:=DW (i64.wrap (A3*16777216)) A5
 let t16:=DW (i64.wrap (A2*16777216)) A4
 let t17:=DW (i64.wrap (A2*16777216)) A5
 let t18:=EU (if t10<if t11<if t12<t13 then t12 else t13 then t11 else if t12<t13 then t12 else t13 then t10 else if t11<if t12<t13 then t12 else t13 then t11 else if t12<t13 then t12 else t13) (if t14>if t15>if t16>t17 then t16 else t17 then t15 else if t16>t17 then t16 else t17 then t14 else if t15>if t16>t17 then t16 else t17 then t15 else if t16>t17 then t16 else t17)
 k (t18.1,t18.2.1,t18.2.2) else none else none else none else none else none else none else none else none
theorem Cl.run:xfn Tryz.prog ⟨[(32,Dt.sp FH),(33,Ap.sp CP),(34,Bg.sp DW),(35,Db.sp EU)],[],[]⟩ [] 60 Tryz.f9 [.agg ⟨[.int .i64 A2,.int .i64 A3]⟩,.agg ⟨[.int .i64 A5,.int .i64 A4]⟩] []=Cl.K FH CP DW EU A2 A3 A5 A4 (fun r=>some (.tuple ⟨[.agg ⟨[.int .i64 r.1,.int .i64 r.2.1]⟩,.int .i64 r.2.2]⟩,[])):=by kernel_rfl
def Cl.o:Option (Int×Int×Int):=Cl.K Dt Ap Bg Db A2 A3 A5 A4 some
def Cl:Int×Int×Int:=(Cl.o A2 A3 A5 A4).getD default
theorem Cl.nat (k:Int×Int×Int→Option R):Cl.K FH CP DW EU A2 A3 A5 A4 k=(Cl.K FH CP DW EU A2 A3 A5 A4 some).bind k:=by
 simp only [Cl.K,bcond,Option.bind_some,Option.bind_none]
end
theorem Cl.o_eq (a b c d:Int):Cl.o a b c d=some (idiv a b c d):=by
  simp only [Cl.o,Cl.K,Dt.eq,idiv,mnE,mxE]
  cases h:V a b&&V c d with
  |false=>simp
  | true=>
    have h':=h
    rw [zB] at h'
    have:=Hf.1 h'.1
    have:=Hf.1 h'.2
    have w3:i64.wrap (-c)= -c:=w64 (by omega) (by omega)
    have w4:i64.wrap (-d)= -d:=w64 (by omega) (by omega)
    have w5:i64.wrap (a*16777216)=a*16777216:=w64 (by omega) (by omega)
    have w6:i64.wrap (b*16777216)=b*16777216:=w64 (by omega) (by omega)
    simp only [w3,w4,w5,w6,zN,cond_false,cond_true,Db.eq]
    by_cases h3:c≤0
    · by_cases h4:d≥0
      · simp [h3,h4]
      · have h5:d<0:=by omega
        have h6:c<0:=by omega
        have n1:((-d) !=0)=true:=by simp; omega
        have n2:((-c) !=0)=true:=by simp; omega
        have n3:¬(c≤0∧0≤d):=by omega
        have f1:Ap (a*16777216) c= -(a*16777216)/ -c:=Ap.eqn h6 (by omega) (by omega) (by omega)
        have f2:Ap (a*16777216) d= -(a*16777216)/ -d:=Ap.eqn h5 (by omega) (by omega) (by omega)
        have f3:Ap (b*16777216) c= -(b*16777216)/ -c:=Ap.eqn h6 (by omega) (by omega) (by omega)
        have f4:Ap (b*16777216) d= -(b*16777216)/ -d:=Ap.eqn h5 (by omega) (by omega) (by omega)
        have f5:Bg (a*16777216) c=cl (-(a*16777216)) (-c):=Bg.eqn h6 (by omega) (by omega) (by omega)
        have f6:Bg (a*16777216) d=cl (-(a*16777216)) (-d):=Bg.eqn h5 (by omega) (by omega) (by omega)
        have f7:Bg (b*16777216) c=cl (-(b*16777216)) (-c):=Bg.eqn h6 (by omega) (by omega) (by omega)
        have f8:Bg (b*16777216) d=cl (-(b*16777216)) (-d):=Bg.eqn h5 (by omega) (by omega) (by omega)
        rw [if_neg n3,if_pos h5]
        simp only [h3,h4,h5,h6,n1,n2,decide_true,decide_false,cond_true,cond_false,f1,f2,f3,f4,f5,f6,f7,f8,pdiv,Int.neg_mul]
        have g1: -(b*16777216)/ -c≤ -(a*16777216)/ -c:=JI (by omega) (by omega)
        have g2: -(b*16777216)/ -d≤ -(a*16777216)/ -d:=JI (by omega) (by omega)
        have g3:cl (-(b*16777216)) (-c)≤cl (-(a*16777216)) (-c):=MT (by omega) (by omega)
        have g4:cl (-(b*16777216)) (-d)≤cl (-(a*16777216)) (-d):=MT (by omega) (by omega)
        refine congrArg some (Nx ?_ ?_)<;>omega
    · have h5:¬d<0:=by omega
      have h6:¬c<0:=by omega
      have n1:(c !=0)=true:=by simp; omega
      have n2:(d !=0)=true:=by simp; omega
      have n3:¬(c≤0∧0≤d):=by omega
      have hc:0<c:=by omega
      have hd:0<d:=by omega
      have f1:Ap (a*16777216) c=a*16777216/c:=Ap.eq hc (by omega) (by omega)
      have f2:Ap (a*16777216) d=a*16777216/d:=Ap.eq hd (by omega) (by omega)
      have f3:Ap (b*16777216) c=b*16777216/c:=Ap.eq hc (by omega) (by omega)
      have f4:Ap (b*16777216) d=b*16777216/d:=Ap.eq hd (by omega) (by omega)
      have f5:Bg (a*16777216) c=cl (a*16777216) c:=Bg.eq hc (by omega) (by omega)
      have f6:Bg (a*16777216) d=cl (a*16777216) d:=Bg.eq hd (by omega) (by omega)
      have f7:Bg (b*16777216) c=cl (b*16777216) c:=Bg.eq hc (by omega) (by omega)
      have f8:Bg (b*16777216) d=cl (b*16777216) d:=Bg.eq hd (by omega) (by omega)
      rw [if_neg n3,if_neg h5]
      simp only [h3,h5,h6,n1,n2,decide_true,decide_false,cond_true,cond_false,f1,f2,f3,f4,f5,f6,f7,f8,pdiv]
      have g1:a*16777216/c≤b*16777216/c:=JI hc (by omega)
      have g2:a*16777216/d≤b*16777216/d:=JI hd (by omega)
      have g3:cl (a*16777216) c≤cl (b*16777216) c:=MT hc (by omega)
      have g4:cl (a*16777216) d≤cl (b*16777216) d:=MT hd (by omega)
      refine congrArg some (Nx ?_ ?_)<;>omega
theorem Cl.total (a b c d:Int):(Cl.o a b c d).isSome=true:=by rw [Cl.o_eq]; rfl
theorem Cl.eq (a b c d:Int):Cl a b c d=idiv a b c d:=by rw [Cl,Cl.o_eq]; rfl
theorem Cl.ok:SOK Tryz.prog 9 (Cl.sp Cl):=by
 refine Cu (E:=⟨[(32,Dt.sp Dt),(33,Ap.sp Ap),(34,Bg.sp Bg),(35,Db.sp Db)],[],[]⟩) (L:=[]) ⟨(Aa Dt.ok (Aa Ap.ok (Aa Bg.ok (Aa Db.ok Ac)))),Ai,Ad,Ah⟩ 60 Tryz.func9 (by decide) rfl Bv fun vs bl v bl' h=> ?_
 unfold Cl.sp at h
 split at h
 ·rename_i A2 A3 A5 A4
  simp only [zS,zP] at h
  obtain ⟨hp,rfl,rfl⟩:=h
  have hr:=Cl.run Dt Ap Bg Db A2 A3 A5 A4
  rw [Cl.nat] at hr
  obtain ⟨r,h2⟩:=Option.isSome_iff_exists.1 (Cl.total A2 A3 A5 A4:(Cl.o A2 A3 A5 A4).isSome=true)
  have h3:Cl A2 A3 A5 A4=r:=by unfold Cl; rw [h2]; rfl
  have h4:Cl.K Dt Ap Bg Db A2 A3 A5 A4 some=some r:=h2
  rw [h4,Option.bind_some] at hr
  rw [h3]
  exact ⟨hr,by simp [okV,Nat.blt],clo_spec 8 _ (by kernel_rfl),Ay (by kernel_rfl)⟩
 ·cases h
section
variable {R:Type} (A2:Int) (A3:Int) (A5:Int) (A4:Int)
def Ec.K (k:(Bool)→R):R:=
 bif decide (A2≤A4) then k (decide (A5≤A3)) else k (false)
theorem Ec.run:xfn Tryz.prog ⟨[],[],[]⟩ [] 60 Tryz.f12 [.agg ⟨[.int .i64 A2,.int .i64 A3]⟩,.agg ⟨[.int .i64 A5,.int .i64 A4]⟩] []=Ec.K A2 A3 A5 A4 (fun r=>some (.bool r,[])):=by kernel_rfl
def Ec:Bool:=Ec.K A2 A3 A5 A4 id
theorem Ec.nat (k:(Bool)→R):Ec.K A2 A3 A5 A4 k=k (Ec.K A2 A3 A5 A4 id):=by
 simp only [Ec.K,acond k,id_eq]
end
theorem Ec.ok:SOK Tryz.prog 12 (Ec.sp Ec):=by
 refine Cu (E:=⟨[],[],[]⟩) (L:=[]) ⟨Ac,Ai,Ad,Ah⟩ 60 Tryz.func12 (by decide) rfl Bv fun vs bl v bl' h=> ?_
 unfold Ec.sp at h
 split at h
 ·rename_i A2 A3 A5 A4
  simp only [zS,zP,true_and] at h
  obtain ⟨rfl,rfl⟩:=h
  refine ⟨?_,by simp [okV,Nat.blt],clo_spec 8 _ (by kernel_rfl),Ay (by kernel_rfl)⟩
  refine (Ec.run A2 A3 A5 A4).trans ?_
  refine (Ec.nat A2 A3 A5 A4 _).trans ?_
  kernel_rfl
 ·cases h
section
variable {R:Type} (FA:(Bool)) (FO:TF20 (Bool)) (FL:TF20 Bool) (G5:Int→Int→Int→Int→(Int×Int×Int×Int×Int×Int×Int)) (F6:TF20 (Int×Int×Int×Int×Int×Int×Int)) (F2:TF20 Bool) (FM:Int→Int→Int→Int→(Int×Int×Int)) (D3:(Int×Int)) (D1:Int→Int→Int→Int→Int→Int→Int→Int→Int→Int→Int→Int→Int→Int→(Int×Int×Int×Int×Int×Int×Int×Int×Int×Int×Int)) (EX:Int→Int→Int→Int→(Bool)) (A2:Int) (A3:Int) (A5:Bool) (A4:ByteArray) (AF:Bool) (AE:ByteArray) (AH:Bool) (AG:ByteArray) (AO:Bool) (AN:ByteArray) (AM:Bool) (AL:ByteArray) (DT:Bool) (DS:ByteArray) (DR:Bool) (DQ:ByteArray) (DP:Bool) (DO:ByteArray) (DN:Bool) (DM:ByteArray) (DL:Bool) (DK:ByteArray) (DJ:Bool) (DI:ByteArray) (DH:Bool) (DG:ByteArray) (DF:Bool) (DE:ByteArray) (DD:Bool) (DC:ByteArray) (DB:Bool) (DA:ByteArray) (G3:Bool) (G2:ByteArray) (G1:Bool) (G0:ByteArray) (FZ:Bool) (FY:ByteArray) (FX:Bool) (FW:ByteArray) (FV:Bool) (FU:ByteArray) (AJ:Int) (AK:Int)
noncomputable def Cv.K (k:(Bool)→Option R):Option R:=
 bif !FA then k (false) else
 let t0:=FL A5 A4 AF AE AH AG AO AN AM AL DT DS DR DQ DP DO DN DM DL DK DJ DI DH DG DF DE DD DC DB DA G3 G2 G1 G0 FZ FY FX FW FV FU
 bif t0 then
 let t1:=FO A5 A4 AF AE AH AG AO AN AM AL DT DS DR DQ DP DO DN DM DL DK DJ DI DH DG DF DE DD DC DB DA G3 G2 G1 G0 FZ FY FX FW FV FU
 bif !t1 then k (true) else
 let t2:=F2 A5 A4 AF AE AH AG AO AN AM AL DT DS DR DQ DP DO DN DM DL DK DJ DI DH DG DF DE DD DC DB DA G3 G2 G1 G0 FZ FY FX FW FV FU
 bif t2 then
 let t3:=G5 ((i64.wrap A2).tmod 16777216) ((i64.wrap A2).tmod 16777216) ((i64.wrap A3).tmod 16777216) ((i64.wrap A3).tmod 16777216)
 bif t3.2.2.2.2.2.2 !=0 then k (true) else
 let t4:=F6 A5 A4 AF AE AH AG AO AN AM AL DT DS DR DQ DP DO DN DM DL DK DJ DI DH DG DF DE DD DC DB DA G3 G2 G1 G0 FZ FY FX FW FV FU
 bif t4.2.2.2.2.2.2 !=0 then k (true) else
 let t5:=FM D3.fst D3.snd AJ AK
 bif t5.2.2 !=0 then k (true) else
 let t6:=D1 t3.1 t3.2.1 t3.2.2.1 t3.2.2.2.1 t3.2.2.2.2.1 t3.2.2.2.2.2.1 t4.1 t4.2.1 t4.2.2.1 t4.2.2.2.1 t4.2.2.2.2.1 t4.2.2.2.2.2.1 AJ AK
 bif t6.2.2.2.2.2.2.2.2.2.2 !=0 then k (true) else
 let t7:=D1 t6.1 t6.2.1 t6.2.2.1 t6.2.2.2.1 t6.2.2.2.2.1 t6.2.2.2.2.2.1 t4.1 t4.2.1 t4.2.2.1 t4.2.2.2.1 t4.2.2.2.2.1 t4.2.2.2.2.2.1 t5.1 t5.2.1
 bif t7.2.2.2.2.2.2.2.2.2.2 !=0 then k (true) else bif decide (AJ≤0) then k (true) else
 let t8:=EX t3.1 t3.2.1 t7.1 t7.2.1
 bif t8 then
 let t9:=EX t3.2.2.1 t3.2.2.2.1 t7.2.2.1 t7.2.2.2.1
 bif t9 then
 let t10:=EX t3.2.2.2.2.1 t3.2.2.2.2.2.1 t7.2.2.2.2.1 t7.2.2.2.2.2.1
 k (t10) else k (false) else k (false) else none else none
theorem Cv.run:xfn Tryz.prog ⟨[(5,Eb.sp FA),(6,Ci.sp FO FL),(7,Ep.sp G5),(8,Bm.sp F6 F2),(9,Cl.sp FM),(10,Dk.sp D3),(11,Ca.sp D1),(12,Ec.sp EX)],[],[]⟩ [] 60 Tryz.f3 [.agg ⟨[.int .i32 A2,.int .i32 A3]⟩,.agg ⟨.bool A5:: .string A4:: .bool AF:: .string AE:: .bool AH:: .string AG:: .bool AO:: .string AN:: .bool AM:: .string AL:: .bool DT:: .string DS:: .bool DR:: .string DQ:: .bool DP:: .string DO:: .bool DN:: .string DM:: .bool DL:: .string DK:: .bool DJ:: .string DI:: .bool DH:: .string DG:: .bool DF:: .string DE:: .bool DD:: .string DC:: .bool DB:: .string DA:: .bool G3:: .string G2:: .bool G1:: .string G0:: .bool FZ:: .string FY:: .bool FX:: .string FW:: .bool FV:: .string FU::[]⟩,.agg ⟨[.int .i64 AJ,.int .i64 AK]⟩] []=Cv.K FA FO FL G5 F6 F2 FM D3 D1 EX A2 A3 A5 A4 AF AE AH AG AO AN AM AL DT DS DR DQ DP DO DN DM DL DK DJ DI DH DG DF DE DD DC DB DA G3 G2 G1 G0 FZ FY FX FW FV FU AJ AK (fun r=>some (.bool r,[])):=by kernel_rfl
noncomputable def Cv.o:Option (Bool):=Cv.K Eb Ci Ci.pre Ep Bm Bm.pre Cl Dk Ca Ec A2 A3 A5 A4 AF AE AH AG AO AN AM AL DT DS DR DQ DP DO DN DM DL DK DJ DI DH DG DF DE DD DC DB DA G3 G2 G1 G0 FZ FY FX FW FV FU AJ AK some
noncomputable def Cv:Bool:=(Cv.o A2 A3 A5 A4 AF AE AH AG AO AN AM AL DT DS DR DQ DP DO DN DM DL DK DJ DI DH DG DF DE DD DC DB DA G3 G2 G1 G0 FZ FY FX FW FV FU AJ AK).getD default
theorem Cv.nat (k:(Bool)→Option R):Cv.K FA FO FL G5 F6 F2 FM D3 D1 EX A2 A3 A5 A4 AF AE AH AG AO AN AM AL DT DS DR DQ DP DO DN DM DL DK DJ DI DH DG DF DE DD DC DB DA G3 G2 G1 G0 FZ FY FX FW FV FU AJ AK k=(Cv.K FA FO FL G5 F6 F2 FM D3 D1 EX A2 A3 A5 A4 AF AE AH AG AO AN AM AL DT DS DR DQ DP DO DN DM DL DK DJ DI DH DG DF DE DD DC DB DA G3 G2 G1 G0 FZ FY FX FW FV FU AJ AK some).bind k:=by
 simp only [Cv.K,bcond,Option.bind_some,Option.bind_none]
end
theorem dof_q {A B:I2} {d:Bx} (h:dof A B= .ok d):∃x y z:Rat,Pq x d.1∧Pq y d.2.1∧Pq z d.2.2∧x*x+y*y+z*z=1:=by
 unfold dof at h
 obtain ⟨hA,h⟩:=He rfl h
 obtain ⟨hB,h⟩:=He rfl h
 obtain ⟨P,hP,h⟩:=Ez h
 obtain ⟨Q,hQ,h⟩:=Ez h
 obtain ⟨S,hS,h⟩:=Ez h
 obtain ⟨W,hW,h⟩:=Ez h
 obtain ⟨x2,hx2,h⟩:=Ez h
 obtain ⟨X,hX,h⟩:=Ez h
 obtain ⟨y2,hy2,h⟩:=Ez h
 obtain ⟨Y,hY,h⟩:=Ez h
 obtain ⟨z2,hz2,h⟩:=Ez h
 obtain ⟨Z,hZ,h⟩:=Ez h
 injection h with h
 subst h
 have pu:=Ht (by decide) (Pt.int hA)
 have pv:=Ht (by decide) (Pt.int hB)
 generalize ((A.1:Int):Rat)/(((1:Int):Rat)*16777216)=u at pu
 generalize ((B.1:Int):Rat)/(((1:Int):Rat)*16777216)=v at pv
 have pS:=addQ (sqQ pu hP) (sqQ pv hQ) hS
 have pW:=addQ oneQ pS hW
 have hu:=HR u
 have hv:=HR v
 have hw:0<1+(u*u+v*v):=by grind
 refine ⟨_,_,_,divQ hw (addQ pu pu hx2) pW hX,divQ hw (addQ pv pv hy2) pW hY,divQ hw (subQ pS oneQ hz2) pW hZ,?_⟩
 have hw0:1+(u*u+v*v)≠0:=by intro h; rw [h] at hw; exact absurd hw (by simp)
 obtain ⟨w,ew⟩:∃w,w=1+(u*u+v*v):=⟨_,rfl⟩
 rw [←ew] at hw0 ⊢
 have e1:(u+u)/w*((u+u)/w)+(v+v)/w*((v+v)/w)+(u*u+v*v-1)/w*((u*u+v*v-1)/w)=((u+u)*(u+u)+(v+v)*(v+v)+(u*u+v*v-1)*(u*u+v*v-1))/(w*w):=by grind
 rw [e1]
 have e2:(u+u)*(u+u)+(v+v)*(v+v)+(u*u+v*v-1)*(u*u+v*v-1)=w*w:=by rw [ew]; grind
 rw [e2]
 grind
theorem Rg {x y z:Q} (ox:x.ok=true) (oy:y.ok=true) (oz:z.ok=true) (hn:(x.nul&&(y.nul&&z.nul))=false):
  UQ (((dquot x (qsq x y z)).1,(dquot x (qsq x y z)).2.1),((dquot y (qsq x y z)).1,(dquot y (qsq x y z)).2.1),((dquot z (qsq x y z)).1,(dquot z (qsq x y z)).2.1)):=by
 obtain ⟨P0,P1,P2,k0,k1,k2,l,u⟩:=Pz (j:=1152921504606846976) (by decide) ox oy oz hn
 exact uq_of k0 k1 k2 l u
theorem RefractionBack.law (x0 x1:Int) (n0:Bool) (s0:ByteArray) (n1:Bool) (s1:ByteArray) (n2:Bool) (s2:ByteArray) (n3:Bool) (s3:ByteArray) (n4:Bool) (s4:ByteArray) (n5:Bool) (s5:ByteArray) (n6:Bool) (s6:ByteArray) (n7:Bool) (s7:ByteArray) (n8:Bool) (s8:ByteArray) (n9:Bool) (s9:ByteArray) (n10:Bool) (s10:ByteArray) (n11:Bool) (s11:ByteArray) (n12:Bool) (s12:ByteArray) (n13:Bool) (s13:ByteArray) (n14:Bool) (s14:ByteArray) (n15:Bool) (s15:ByteArray) (n16:Bool) (s16:ByteArray) (n17:Bool) (s17:ByteArray) (n18:Bool) (s18:ByteArray) (n19:Bool) (s19:ByteArray) (r0 r1:Int) (z0:s0.size≤8589934592) (z1:s1.size≤8589934592) (z2:s2.size≤8589934592) (z3:s3.size≤8589934592) (z4:s4.size≤8589934592) (z5:s5.size≤8589934592) (z6:s6.size≤8589934592) (z7:s7.size≤8589934592) (z8:s8.size≤8589934592) (z9:s9.size≤8589934592) (z10:s10.size≤8589934592) (z11:s11.size≤8589934592) (z12:s12.size≤8589934592) (z13:s13.size≤8589934592) (z14:s14.size≤8589934592) (z15:s15.size≤8589934592) (z16:s16.size≤8589934592) (z17:s17.size≤8589934592) (z18:s18.size≤8589934592) (z19:s19.size≤8589934592):Cv.o x0 x1 n0 s0 n1 s1 n2 s2 n3 s3 n4 s4 n5 s5 n6 s6 n7 s7 n8 s8 n9 s9 n10 s10 n11 s11 n12 s12 n13 s13 n14 s14 n15 s15 n16 s16 n17 s17 n18 s18 n19 s19 r0 r1=some true:=by
 obtain ⟨b,eb,hb⟩:=Ci.spec n0 s0 n1 s1 n2 s2 n3 s3 n4 s4 n5 s5 n6 s6 n7 s7 n8 s8 n9 s9 n10 s10 n11 s11 n12 s12 n13 s13 n14 s14 n15 s15 n16 s16 n17 s17 n18 s18 n19 s19 z0 z1 z2 z3 z4 z5 z6 z7 z8 z9 z10 z11 z12 z13 z14 z15 z16 z17 z18 z19
 have p1:Ci.pre n0 s0 n1 s1 n2 s2 n3 s3 n4 s4 n5 s5 n6 s6 n7 s7 n8 s8 n9 s9 n10 s10 n11 s11 n12 s12 n13 s13 n14 s14 n15 s15 n16 s16 n17 s17 n18 s18 n19 s19=true:=Fk eb
 have v1:Ci n0 s0 n1 s1 n2 s2 n3 s3 n4 s4 n5 s5 n6 s6 n7 s7 n8 s8 n9 s9 n10 s10 n11 s11 n12 s12 n13 s13 n14 s14 n15 s15 n16 s16 n17 s17 n18 s18 n19 s19=b:=GT eb
 simp only [Cv.o,Cv.K,QR,Ca.eq,Ep.eq,Cl.eq,Dk.eq,p1,v1,cond_true,cond_false,zN]
 cases b with
 |false=>rfl
 | true=>
  obtain ⟨x,y,z,q,ex,ey,ez,eq,ox,oy,oz,oq,bx,by',bz,bq,hn⟩:=hb rfl
  simp only [C5,zP] at ex ey ez eq
  obtain ⟨rfl,rfl,rfl,rfl,rfl,rfl,rfl,rfl,rfl,rfl⟩:=ex
  obtain ⟨rfl,rfl,rfl,rfl,rfl,rfl,rfl,rfl,rfl,rfl⟩:=ey
  obtain ⟨rfl,rfl,rfl,rfl,rfl,rfl,rfl,rfl,rfl,rfl⟩:=ez
  obtain ⟨rfl,rfl,rfl,rfl,rfl,rfl,rfl,rfl,rfl,rfl⟩:=eq
  have hu:=Rg ox oy oz hn
  simp only [Bm.ps bx by' bz bq (by omega) ox oy oz oq,Bm.es bx by' bz bq (by omega) ox oy oz oq,hn,cond_true,cond_false,zN]
  generalize dquot x (qsq x y z)=tx at*
  generalize dquot y (qsq x y z)=ty at*
  generalize dquot z (qsq x y z)=tz at*
  generalize hd:dof _ _=D at*
  have hD:Nz D:=by rw [←hd]; exact dof_nz _ _
  rcases t3c (idiv 16777216 16777216 r0 r1) with ⟨i0,i1,hi⟩|⟨i0,i1,ei,hei,hi⟩
  ·simp only [hi,bne_self_eq_false]
   rcases hD.cases with ⟨⟨⟨d0,d1⟩,⟨d2,d3⟩,⟨d4,d5⟩⟩,rfl⟩|⟨e,he,rfl⟩
   ·simp only [o7,bne_self_eq_false]
    rcases (SY ((d0,d1),(d2,d3),(d4,d5)) ((tx.1,tx.2.1),(ty.1,ty.2.1),(tz.1,tz.2.1)) (r0,r1)).cases with ⟨⟨⟨⟨a0,a1⟩,⟨a2,a3⟩,⟨a4,a5⟩⟩,⟨p0,p1⟩,⟨p2,p3⟩⟩,ha⟩|⟨e,he,ha⟩
    ·simp only [ha,o11,bne_self_eq_false]
     rcases (SY ((a0,a1),(a2,a3),(a4,a5)) ((tx.1,tx.2.1),(ty.1,ty.2.1),(tz.1,tz.2.1)) (i0,i1)).cases with ⟨⟨⟨⟨b0,b1⟩,⟨b2,b3⟩,⟨b4,b5⟩⟩,⟨s0,s1⟩,⟨s2,s3⟩⟩,hb⟩|⟨e,he,hb⟩
     ·simp only [hb,o11,bne_self_eq_false,cond_false]
      by_cases hr:r0≤0
      ·simp only [decide_eq_true hr,cond_true]
      ·have hinv:divR one2 (r0,r1)= .ok (i0,i1):=by show t3 (idiv 16777216 16777216 r0 r1)=_; rw [hi]; rfl
       obtain ⟨⟨g1,g2⟩,⟨g3,g4⟩,⟨g5,g6⟩⟩:=Tj (dof_q hd) hu (by show 0<r0; omega) hinv ha hb
       simp only at g1 g2 g3 g4 g5 g6
       simp only [decide_eq_false hr,cond_false,Ec,Ec.K,id_eq,g1,g2,g3,g4,g5,g6,decide_true,cond_true]
     ·simp only [hb,o11,Em he,cond_true,cond_false]
    ·simp only [ha,o11,Em he,cond_true,cond_false]
     try rfl
   ·simp only [o7,Em he,cond_true]
    try rfl
  ·simp only [hi,Em hei,cond_true,cond_false]
   cases ((o7 D).2.2.2.2.2.2 !=0)<;>rfl
theorem Cv.calls (A2:Int) (A3:Int) (A5:Bool) (A4:ByteArray) (AF:Bool) (AE:ByteArray) (AH:Bool) (AG:ByteArray) (AO:Bool) (AN:ByteArray) (AM:Bool) (AL:ByteArray) (DT:Bool) (DS:ByteArray) (DR:Bool) (DQ:ByteArray) (DP:Bool) (DO:ByteArray) (DN:Bool) (DM:ByteArray) (DL:Bool) (DK:ByteArray) (DJ:Bool) (DI:ByteArray) (DH:Bool) (DG:ByteArray) (DF:Bool) (DE:ByteArray) (DD:Bool) (DC:ByteArray) (DB:Bool) (DA:ByteArray) (G3:Bool) (G2:ByteArray) (G1:Bool) (G0:ByteArray) (FZ:Bool) (FY:ByteArray) (FX:Bool) (FW:ByteArray) (FV:Bool) (FU:ByteArray) (AJ:Int) (AK:Int) (h:Cv.o A2 A3 A5 A4 AF AE AH AG AO AN AM AL DT DS DR DQ DP DO DN DM DL DK DJ DI DH DG DF DE DD DC DB DA G3 G2 G1 G0 FZ FY FX FW FV FU AJ AK=some true) (w:World) (ht:TabOk w):Calls Tryz.prog 3 ⟨[.agg ⟨[.int .i32 A2,.int .i32 A3]⟩,.agg ⟨.bool A5:: .string A4:: .bool AF:: .string AE:: .bool AH:: .string AG:: .bool AO:: .string AN:: .bool AM:: .string AL:: .bool DT:: .string DS:: .bool DR:: .string DQ:: .bool DP:: .string DO:: .bool DN:: .string DM:: .bool DL:: .string DK:: .bool DJ:: .string DI:: .bool DH:: .string DG:: .bool DF:: .string DE:: .bool DD:: .string DC:: .bool DB:: .string DA:: .bool G3:: .string G2:: .bool G1:: .string G0:: .bool FZ:: .string FY:: .bool FX:: .string FW:: .bool FV:: .string FU::[]⟩,.agg ⟨[.int .i64 AJ,.int .i64 AK]⟩]⟩ w fun e w'=>e= .returned (.bool true)∧Below w.heap.size w w':=by
 refine Rz (E:=⟨[(5,Eb.sp Eb),(6,Ci.sp Ci Ci.pre),(7,Ep.sp Ep),(8,Bm.sp Bm Bm.pre),(9,Cl.sp Cl),(10,Dk.sp Dk),(11,Ca.sp Ca),(12,Ec.sp Ec)],[],[]⟩) (L:=[]) ⟨(Aa Eb.ok (Aa Ci.ok (Aa Ep.ok (Aa Bm.ok (Aa Cl.ok (Aa Dk.ok (Aa Ca.ok (Aa Ec.ok Ac)))))))),Ai,Ad,Ah⟩ 60 Tryz.func3 (by decide) rfl Bv (vs:=[.agg ⟨[.int .i32 A2,.int .i32 A3]⟩,.agg ⟨.bool A5:: .string A4:: .bool AF:: .string AE:: .bool AH:: .string AG:: .bool AO:: .string AN:: .bool AM:: .string AL:: .bool DT:: .string DS:: .bool DR:: .string DQ:: .bool DP:: .string DO:: .bool DN:: .string DM:: .bool DL:: .string DK:: .bool DJ:: .string DI:: .bool DH:: .string DG:: .bool DF:: .string DE:: .bool DD:: .string DC:: .bool DB:: .string DA:: .bool G3:: .string G2:: .bool G1:: .string G0:: .bool FZ:: .string FY:: .bool FX:: .string FW:: .bool FV:: .string FU::[]⟩,.agg ⟨[.int .i64 AJ,.int .i64 AK]⟩]) (v:= .bool true) ?_ (by simp [okV,Nat.blt]) (clo_spec 8 _ rfl) w ht
 refine (Cv.run Eb Ci Ci.pre Ep Bm Bm.pre Cl Dk Ca Ec A2 A3 A5 A4 AF AE AH AG AO AN AM AL DT DS DR DQ DP DO DN DM DL DK DJ DI DH DG DF DE DD DC DB DA G3 G2 G1 G0 FZ FY FX FW FV FU AJ AK).trans ?_
 rw [Cv.nat]
 have h4:Cv.K Eb Ci Ci.pre Ep Bm Bm.pre Cl Dk Ca Ec A2 A3 A5 A4 AF AE AH AG AO AN AM AL DT DS DR DQ DP DO DN DM DL DK DJ DI DH DG DF DE DD DC DB DA G3 G2 G1 G0 FZ FY FX FW FV FU AJ AK some=some true:=h
 rw [h4]
 rfl
end Go.Proofs.YtphlckkbihmlnaaGreatDoor.G
end
section
namespace RX
open Go Go.RowKit
theorem okWide_agg {P:Program} {w:World} {r:Reach} {b:Nat} {t:TypeId} {v:Value} {ts:List TypeId} (hu:(match P.underlying t with|some (.struct _)=>true|some (.array _ _)=>true|_=>false)=true) (hc:P.cellTypes P.depth t=some ts) (hn:P.cellsOf t=ts.length) (h:Value.okWide P w r b t v):
  ∃l:List Value,v= .agg ⟨l⟩∧l.length=ts.length∧∀(i:Nat) (x:Value) (u:TypeId),l[i]? =some x→ts[i]? =some u→Cell.okWide P w r b u x:=by
 have key:∃cs,v= .agg cs∧cs.size=P.cellsOf t∧Row.okWide P w r b t cs:=by
  unfold Value.okWide at h
  split at h
  ·exact h
  ·exact h
  ·rename_i h1 h2
   split at hu
   ·rename_i hs; exact absurd hs (h1 _)
   ·rename_i hs; exact absurd hs (h2 _ _)
   ·cases hu
 obtain ⟨cs,rfl,hsz,ts',hts,_,hcell⟩:=key
 rw [hc] at hts
 injection hts with hts
 subst hts
 refine ⟨cs.toList,rfl,by simp [hsz,hn],fun i x u hx hu'=> ?_⟩
 have hx':cs[i]? =some x:=by simpa using hx
 obtain ⟨u',e,hk⟩:=hcell i x hx'
 have hlt:i<ts.length:=(List.getElem?_eq_some_iff.1 hu').1
 rw [Nat.mod_eq_of_lt hlt,hu'] at e
 injection e with e
 subst e
 exact hk
theorem len_succ {α:Type} {l:List α} {n:Nat} (h:l.length=n+1):∃x l',l=x::l'∧l'.length=n:=by
 cases l with
 |nil=>simp at h
 |cons x l'=>exact ⟨x,l',rfl,by simpa using h⟩
theorem len_zero {α:Type} {l:List α} (h:l.length=0):l=[]:=List.length_eq_zero_iff.1 h
theorem cell_int {P:Program} {w:World} {r:Reach} {b:Nat} {u:TypeId} {k:IntKind} {x:Value} (hu:P.underlying u=some (.int k)) (h:Cell.okWide P w r b u x):∃n,x= .int k n∧k.has n:=by
 unfold Cell.okWide at h
 rw [hu] at h
 cases x<;>simp [Cell.ok,hu] at h
 obtain ⟨rfl,h⟩:=h
 exact ⟨_,rfl,h⟩
theorem cell_bool {P:Program} {w:World} {r:Reach} {b:Nat} {u:TypeId} {x:Value} (hu:P.underlying u=some .bool) (h:Cell.okWide P w r b u x):∃n,x= .bool n:=by
 unfold Cell.okWide at h
 rw [hu] at h
 cases x<;>simp [Cell.ok,hu] at h
 exact ⟨_,rfl⟩
theorem trod_lt {H:Type} {enc:TypeId×Value→H} {P:Program} {w:World} {spare:Nat→Bool} {held:Bool} {t:TypeId} {v:Value} {d:DataW H} {ps:List MemPlace} (h:DataW.Trod enc P w 0 spare held t v d ps):∀x∈ps,x.block<w.heap.size:=by
 obtain ⟨m,hm⟩:=h
 exact DataW.trod_lt m _ _ _ hm
def hasS (P:Program):Nat→TypeId→Nat→Bool
 |0,_,_=>false
 | n +1,t,i=>
  match P.underlying t with
  |some .string=>Nat.beq i 0
  | some (.struct fs)=>(List.range fs.size).any fun j=>match fs[j]? with
   |some f=>decide (f.offset≤i)&&(decide (i<f.offset+P.cellsOf f.type)&&hasS P n f.type (i-f.offset))
   |none=>false
  |some (.array m e)=>decide (i<m*P.cellsOf e)&&hasS P n e (i%P.cellsOf e)
  |_=>false
theorem Ik {H:Type} {d:DataW H} :∀ {l:List (DataW H)},d∈l→Go.Proofs.YtphlckkbihmlnaaGreatDoor.Rows.uptoBulk d≤Go.Proofs.YtphlckkbihmlnaaGreatDoor.Rows.uptoBulkAll l
 |[],h=>by cases h
 | x::r,h=>by
  simp only [Go.Proofs.YtphlckkbihmlnaaGreatDoor.Rows.uptoBulkAll]
  rcases List.mem_cons.1 h with rfl|h
  ·omega
  ·have:=Ik h; omega
theorem Qc {α:Type} {l:List α} {o c i:Nat} (h1:o≤i) (h2:i<o+c):((l.drop o).take c)[i-o]? =l[i]? :=by
 rw [List.getElem?_take_of_lt (by omega),List.getElem?_drop]
 congr 1; omega
theorem LQ {H:Type} {enc:TypeId×Value→H} {P:Program} {w:World} {base:Nat} {spare:Nat→Bool} {held:Bool} {s:ByteArray} :∀(n:Nat) (t:TypeId) (i:Nat),hasS P n t i=true→∀(fuel:Nat) (cs:List Value) (x:DataW H×List MemPlace),DataW.trod enc P w base spare held fuel t cs=some x→cs[i]? =some (.string s)→s.size+1≤Go.Proofs.YtphlckkbihmlnaaGreatDoor.Rows.uptoBulk x.1
 |0,_,_,h=>by cases h
 | n + 1,t,i,h=>fun fuel cs x hx hi=>by
  unfold hasS at h
  split at h
  ·rename_i hu
   obtain ⟨s',hc,rfl,_⟩:=DataW.trod_string hu hx
   have h0:=zE h
   subst h0 hc
   simp only [List.getElem?_cons_zero,zS,Value.string.injEq] at hi
   subst hi
   simp only [Go.Proofs.YtphlckkbihmlnaaGreatDoor.Rows.uptoBulk]
   exact Nat.le_refl _
  ·rename_i fs hu
   obtain ⟨ys,m,_,rfl,hl,hlen,hf⟩:=DataW.trod_struct hu hx
   rw [List.any_eq_true] at h
   obtain ⟨j,hj,h⟩:=h
   split at h
   ·rename_i f hfj
    simp only [zB,zD] at h
    obtain ⟨h1,h2,h3⟩:=h
    have hjl:j<fs.size:=(Array.getElem?_eq_some_iff.1 hfj).1
    have hy:=hf j f hfj
    have hj':ys[j]? =some (ys[j]'(by omega)):=List.getElem?_eq_getElem (by omega)
    rw [hj'] at hy
    have:=LQ n f.type (i-f.offset) h3 _ _ _ hy (by rw [Qc h1 h2]; exact hi)
    have hm:=Ik (d:=(ys[j]'(by omega)).1) (l:=ys.map (·.1)) (List.mem_map.2 ⟨_,List.getElem_mem _,rfl⟩)
    simp only [Go.Proofs.YtphlckkbihmlnaaGreatDoor.Rows.uptoBulk]
    omega
   ·cases h
  ·rename_i m e hu
   obtain ⟨ys,k,_,rfl,hl,hlen,hf⟩:=DataW.trod_array hu hx
   simp only [zB,zD] at h
   obtain ⟨h1,h2⟩:=h
   have hc:0<P.cellsOf e:=Nat.pos_of_ne_zero fun h0=>by rw [h0,Nat.mul_zero] at h1; omega
   have hd:i/P.cellsOf e<m:=Nat.div_lt_of_lt_mul (by rw [Nat.mul_comm]; exact h1)
   have hy:=hf (i/P.cellsOf e) hd
   have hj':ys[i/P.cellsOf e]? =some (ys[i/P.cellsOf e]'(by omega)):=List.getElem?_eq_getElem (by omega)
   rw [hj'] at hy
   have e1:i%P.cellsOf e=i-i/P.cellsOf e*P.cellsOf e:=by
    have:=Nat.div_add_mod i (P.cellsOf e)
    rw [Nat.mul_comm] at this
    omega
   have l1:i/P.cellsOf e*P.cellsOf e≤i:=Nat.div_mul_le_self i _
   have l2:i<i/P.cellsOf e*P.cellsOf e+P.cellsOf e:=by
    have:=Nat.mod_lt i hc
    omega
   have:=LQ n e (i%P.cellsOf e) h2 _ _ _ hy (by rw [e1,Qc l1 l2]; exact hi)
   have hm:=Ik (d:=(ys[i/P.cellsOf e]'(by omega)).1) (l:=ys.map (·.1)) (List.mem_map.2 ⟨_,List.getElem_mem _,rfl⟩)
   simp only [Go.Proofs.YtphlckkbihmlnaaGreatDoor.Rows.uptoBulk]
   omega
  ·cases h
theorem cell_string {P:Program} {w:World} {r:Reach} {b:Nat} {u:TypeId} {x:Value} (hu:P.underlying u=some .string) (h:Cell.okWide P w r b u x):∃n,x= .string n:=by
 unfold Cell.okWide at h
 rw [hu] at h
 cases x<;>simp [Cell.ok,hu] at h
 exact ⟨_,rfl⟩
theorem size_le {H:Type} {enc:TypeId×Value→H} {P:Program} {w:World} {spare:Nat→Bool} {held:Bool} {t:TypeId} {cs:List Value} {d:DataW H} {ps:List MemPlace} {ds:List (DataW H)} {s:ByteArray} {B:Nat} (h:DataW.Trod enc P w 0 spare held t (.agg ⟨cs⟩) d ps) (hd:d∈ds) (hB:Go.Proofs.YtphlckkbihmlnaaGreatDoor.Rows.uptoBulkAll ds≤B) (n i:Nat) (hh:hasS P n t i=true) (hi:cs[i]? =some (.string s)):s.size≤B:=by
 obtain ⟨fuel,hf⟩:=h
 have h1:=LQ n t i hh fuel cs _ hf hi
 have h2:=Ik hd
 simp only at h1
 omega
end RX
end
