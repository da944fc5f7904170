/- A part of what the law's proof leans on. PACKED BY pack.py of this repo. -/
import Derived.Test.YtphlckkbihmlnaaGreatDoorT15
set_option linter.unusedVariables false
set_option linter.unusedSimpArgs false
set_option linter.defProp false
set_option linter.unusedSectionVars false
section
namespace Go.Proofs.YtphlckkbihmlnaaGreatDoor.G
set_option maxRecDepth 100000
open Go Go.Proofs Go.RowKit RX
def Dc.K {R:Type} (k:Int×Int→R):R:=
 k (16777216,16777216)
theorem Dc.run:xfn Tryz.prog ⟨[],[],[]⟩ [] 60 Tryz.f53 [] []=Dc.K (fun r=>some (.agg ⟨[.int .i64 r.1,.int .i64 r.2]⟩,[])):=by kernel_rfl
def Dc:Int×Int:=Dc.K id
theorem Dc.nat {R:Type} (k:Int×Int→R):Dc.K k=k (Dc.K id):=by
 simp only [Dc.K,acond k,id_eq]
theorem Dc.ok:SOK Tryz.prog 53 (Dc.sp Dc):=by
 refine Cq (E:=⟨[],[],[]⟩) (L:=[]) ⟨Ac,Ai,Ad,Ah⟩ 60 Tryz.func53 (by decide) rfl Bs fun vs bl v bl' h=> ?_
 unfold Dc.sp at h
 split at h
 ·simp only [Option.some.injEq,Prod.mk.injEq,true_and] at h
  obtain ⟨rfl,rfl⟩:=h
  refine ⟨?_,by simp [okV,Nat.blt],clo_spec 8 _ (by kernel_rfl),As (by kernel_rfl)⟩
  refine (Dc.run).trans ?_
  refine (Dc.nat _).trans ?_
  kernel_rfl
 ·cases h
section
variable {R:Type} (AI:Int→Int→(Bool)) (BV:Int→Int→(Int×Int×Int)) (AV:Int→Int→Int→(Int×Int×Int)) (AW:Int→Int→Int→(Int×Int×Int)) (BL:Int→Int→Int→(Int×Int×Int)) (AT:Int→Int→Int→Int→Int→(Int×Int×Int)) (AP:Int→Int→Int→Int→Int→(Int×Int×Int)) (AQ:Int→Int→Int→Int→Int→(Int×Int×Int)) (AS:Int→Int→Int→Int→Int→(Int×Int×Int)) (AR:Int→Int→Int→Int→(Int×Int×Int)) (AU:Int→Int→Int→Int→(Int×Int×Int)) (CO:(Int×Int)) (A2:Int) (A3:Int) (A5:Int) (A4:Int)
def Cd.K {R:Type} (AI:Int→Int→(Bool)) (BV:Int→Int→(Int×Int×Int)) (AV:Int→Int→Int→(Int×Int×Int)) (AW:Int→Int→Int→(Int×Int×Int)) (BL:Int→Int→Int→(Int×Int×Int)) (AT:Int→Int→Int→Int→Int→(Int×Int×Int)) (AP:Int→Int→Int→Int→Int→(Int×Int×Int)) (AQ:Int→Int→Int→Int→Int→(Int×Int×Int)) (AS:Int→Int→Int→Int→Int→(Int×Int×Int)) (AR:Int→Int→Int→Int→(Int×Int×Int)) (AU:Int→Int→Int→Int→(Int×Int×Int)) (CO:(Int×Int)) (A2:Int) (A3:Int) (A5:Int) (A4:Int) (k:Int×Int×Int→R):R:=
 let t0:=AI A2 A3
 bif !t0 then k (0,0,1) else
 let t1:=AI A5 A4
 bif !t1 then k (0,0,1) else
 let t2:=AV 0 A5 A4
 let t3:=AV t2.2.2 A2 A3
 let t4:=AP t3.2.2 CO.fst CO.snd t3.1 t3.2.1
 let t5:=AQ t4.2.2 t2.1 t2.2.1 t4.1 t4.2.1
 let t6:=AP t5.2.2 CO.fst CO.snd t5.1 t5.2.1
 bif t6.2.2 !=0 then k (0,0,t6.2.2) else k (t6.1,t6.2.1,0)
theorem Cd.run:xfn Tryz.prog ⟨[(21,Ab.sp AI),(23,Br.sp BV),(41,Er.sp AV AW BL),(45,Ef.sp AT AP AQ AS),(46,Ak.sp AR),(47,Au.sp AU),(53,Dc.sp CO)],[],[]⟩ [] 60 Tryz.f40 [.agg ⟨[.int .i64 A2,.int .i64 A3]⟩,.agg ⟨[.int .i64 A5,.int .i64 A4]⟩] []=Cd.K AI BV AV AW BL AT AP AQ AS AR AU CO A2 A3 A5 A4 (fun r=>some (.tuple ⟨[.agg ⟨[.int .i64 r.1,.int .i64 r.2.1]⟩,.int .i64 r.2.2]⟩,[])):=by kernel_rfl
def Cd:Int×Int×Int:=Cd.K Ab Br Aw Be Bg Aj Ap Aq Ar Ak Au Dc A2 A3 A5 A4 id
theorem Cd.nat (k:Int×Int×Int→R):Cd.K AI BV AV AW BL AT AP AQ AS AR AU CO A2 A3 A5 A4 k=k (Cd.K AI BV AV AW BL AT AP AQ AS AR AU CO A2 A3 A5 A4 id):=by
 simp only [Cd.K,acond k,id_eq]
end
theorem Cd.ok:SOK Tryz.prog 40 (Cd.sp Cd):=by
 refine Cq (E:=⟨[(21,Ab.sp Ab),(23,Br.sp Br),(41,Er.sp Aw Be Bg),(45,Ef.sp Aj Ap Aq Ar),(46,Ak.sp Ak),(47,Au.sp Au),(53,Dc.sp Dc)],[],[]⟩) (L:=[]) ⟨(Aa Ab.ok (Aa Br.ok (Aa Er.ok (Aa Ef.ok (Aa Ak.ok (Aa Au.ok (Aa Dc.ok Ac))))))),Ai,Ad,Ah⟩ 60 Tryz.func40 (by decide) rfl Bs fun vs bl v bl' h=> ?_
 unfold Cd.sp at h
 split at h
 ·rename_i A2 A3 A5 A4
  simp only [Option.some.injEq,Prod.mk.injEq,true_and] at h
  obtain ⟨rfl,rfl⟩:=h
  refine ⟨?_,by simp [okV,Nat.blt],clo_spec 8 _ (by kernel_rfl),As (by kernel_rfl)⟩
  refine (Cd.run Ab Br Aw Be Bg Aj Ap Aq Ar Ak Au Dc A2 A3 A5 A4).trans ?_
  refine (Cd.nat Ab Br Aw Be Bg Aj Ap Aq Ar Ak Au Dc A2 A3 A5 A4 _).trans ?_
  kernel_rfl
 ·cases h
section
variable {R:Type} (s0_0:Int) (A5:Int) (A4:Int) (AF:Int) (AE:Int) (AH:Int) (AG:Int)
def Av.K (k:Int×Int×Int×Int×Int×Int×Int×Int→R):R:=
 bif s0_0 !=0 then k (0,0,0,0,0,0,s0_0,s0_0) else k (A5,A4,AF,AE,AH,AG,0,s0_0)
theorem Av.run:xfn Tryz.prog ⟨[],[],[]⟩ [] 60 Tryz.f27 [.pointer (some ⟨0,0,none⟩),.agg ⟨[.int .i64 A5,.int .i64 A4,.int .i64 AF,.int .i64 AE,.int .i64 AH,.int .i64 AG]⟩] [.cs [.int .i64 s0_0] 61]=Av.K s0_0 A5 A4 AF AE AH AG (fun r=>some (.tuple ⟨[.agg ⟨[.int .i64 r.1,.int .i64 r.2.1,.int .i64 r.2.2.1,.int .i64 r.2.2.2.1,.int .i64 r.2.2.2.2.1,.int .i64 r.2.2.2.2.2.1]⟩,.int .i64 r.2.2.2.2.2.2.1]⟩,[.cs [.int .i64 r.2.2.2.2.2.2.2] 61])):=by kernel_rfl
def Av:Int×Int×Int×Int×Int×Int×Int×Int:=Av.K s0_0 A5 A4 AF AE AH AG id
theorem Av.nat (k:Int×Int×Int×Int×Int×Int×Int×Int→R):Av.K s0_0 A5 A4 AF AE AH AG k=k (Av.K s0_0 A5 A4 AF AE AH AG id):=by
 simp only [Av.K,acond k,id_eq]
end
theorem Av.ok:SOK Tryz.prog 27 (Av.sp Av):=by
 refine Cq (E:=⟨[],[],[]⟩) (L:=[]) ⟨Ac,Ai,Ad,Ah⟩ 60 Tryz.func27 (by decide) rfl Bs fun vs bl v bl' h=> ?_
 unfold Av.sp at h
 split at h
 ·rename_i A5 A4 AF AE AH AG s0_0
  simp only [Option.some.injEq,Prod.mk.injEq,true_and] at h
  obtain ⟨rfl,rfl⟩:=h
  refine ⟨?_,by simp [okV,Nat.blt],clo_spec 8 _ (by kernel_rfl),As (by kernel_rfl)⟩
  refine (Av.run s0_0 A5 A4 AF AE AH AG).trans ?_
  refine (Av.nat s0_0 A5 A4 AF AE AH AG _).trans ?_
  kernel_rfl
 ·cases h
section
variable {R:Type} (AI:Int→Int→(Bool)) (C1:Int→Int→Int→Int→Int→Int→Int→(Int×Int×Int×Int×Int×Int×Int×Int)) (BS:Int→Int→Int→Int→Int→Int→(Bool)) (CR:Int→Int→Int→Int→Int→(Int×Int×Int)) (A2:Int) (A3:Int) (A8:Int) (A7:Int) (A6:Int) (A9:Int) (A5:Int) (A4:Int)
def Dk.K (k:Int×Int×Int×Int×Int×Int×Int→R):R:=
 let t0:=BS A2 A3 A8 A7 A6 A9
 bif !t0 then k (0,0,0,0,0,0,1) else
 let t1:=AI A5 A4
 bif !t1 then k (0,0,0,0,0,0,1) else
 let t2:=CR 0 A2 A3 A5 A4
 let t3:=CR t2.2.2 A8 A7 A5 A4
 let t4:=CR t3.2.2 A6 A9 A5 A4
 let t5:=C1 t4.2.2 t2.1 t2.2.1 t3.1 t3.2.1 t4.1 t4.2.1
 k (t5.1,t5.2.1,t5.2.2.1,t5.2.2.2.1,t5.2.2.2.2.1,t5.2.2.2.2.2.1,t5.2.2.2.2.2.2.1)
theorem Dk.run:xfn Tryz.prog ⟨[(21,Ab.sp AI),(27,Av.sp C1),(77,Az.sp BS),(78,Bt.sp CR)],[],[]⟩ [] 60 Tryz.f81 [.agg ⟨[.int .i64 A2,.int .i64 A3,.int .i64 A8,.int .i64 A7,.int .i64 A6,.int .i64 A9]⟩,.agg ⟨[.int .i64 A5,.int .i64 A4]⟩] []=Dk.K AI C1 BS CR A2 A3 A8 A7 A6 A9 A5 A4 (fun r=>some (.tuple ⟨[.agg ⟨[.int .i64 r.1,.int .i64 r.2.1,.int .i64 r.2.2.1,.int .i64 r.2.2.2.1,.int .i64 r.2.2.2.2.1,.int .i64 r.2.2.2.2.2.1]⟩,.int .i64 r.2.2.2.2.2.2]⟩,[])):=by kernel_rfl
def Dk:Int×Int×Int×Int×Int×Int×Int:=Dk.K Ab Av Az Bt A2 A3 A8 A7 A6 A9 A5 A4 id
theorem Dk.nat (k:Int×Int×Int×Int×Int×Int×Int→R):Dk.K AI C1 BS CR A2 A3 A8 A7 A6 A9 A5 A4 k=k (Dk.K AI C1 BS CR A2 A3 A8 A7 A6 A9 A5 A4 id):=by
 simp only [Dk.K,acond k,id_eq]
theorem Dk.eq (a0 a1 a2 a3 a4 a5 r0 r1:Int):Dk a0 a1 a2 a3 a4 a5 r0 r1=o7 (dscale ((a0,a1),(a2,a3),(a4,a5)) (r0,r1)):=by
 simp only [Dk,Dk.K,id_eq,Az.eq,Bt.eq,Ab.eq,Av,Av.K,id_eq,dscale,dzip,mulR,V2]
 cases hV0:VB ((a0,a1),(a2,a3),(a4,a5)) with
 | false=>
  simp only [hV0,st0,kr0,st70,GR,Fb,Fc,o7,o3,o2,o11,GU,kp0,cond_true,cond_false,Bool.not_true,Bool.not_false,Bool.false_and,Bool.and_false,Bool.true_and,Bool.and_true,bne_self_eq_false,beq_self_eq_true,if_true,if_false]
 | true=>
  cases hV1:V r0 r1 with
  | false=>
   simp only [hV0,hV1,st0,kr0,st70,GR,Fb,Fc,o7,o3,o2,o11,GU,kp0,cond_true,cond_false,Bool.not_true,Bool.not_false,Bool.false_and,Bool.and_false,Bool.true_and,Bool.and_true,bne_self_eq_false,beq_self_eq_true,if_true,if_false]
  | true=>
   rcases t3c (imul a0 a1 r0 r1) with ⟨x0,x1,h0⟩|⟨x0,x1,e0,n0,h0⟩
   ·simp only [hV0,hV1,h0,st0,kr0,st70,GR,Fb,Fc,o7,o3,o2,o11,GU,kp0,cond_true,cond_false,Bool.not_true,Bool.not_false,Bool.false_and,Bool.and_false,Bool.true_and,Bool.and_true,bne_self_eq_false,beq_self_eq_true,if_true,if_false]
    rcases t3c (imul a2 a3 r0 r1) with ⟨y0,y1,h1⟩|⟨y0,y1,e1,n1,h1⟩
    ·simp only [h1,st0,kr0,st70,GR,Fb,Fc,o7,o3,o2,o11,GU,kp0,cond_true,cond_false,Bool.not_true,Bool.not_false,Bool.false_and,Bool.and_false,Bool.true_and,Bool.and_true,bne_self_eq_false,beq_self_eq_true,if_true,if_false]
     rcases t3c (imul a4 a5 r0 r1) with ⟨z0,z1,h2⟩|⟨z0,z1,e2,n2,h2⟩
     ·simp only [h2,st0,kr0,st70,GR,Fb,Fc,o7,o3,o2,o11,GU,kp0,cond_true,cond_false,Bool.not_true,Bool.not_false,Bool.false_and,Bool.and_false,Bool.true_and,Bool.and_true,bne_self_eq_false,beq_self_eq_true,if_true,if_false]
     ·simp only [h2,stE n2,krE n2,st7E n2,Hl n2,Fh n2,Fu n2,kpn _ n2,st0,kr0,st70,GR,Fb,Fc,o7,o3,o2,o11,GU,kp0,cond_true,cond_false,Bool.not_true,Bool.not_false,Bool.false_and,Bool.and_false,Bool.true_and,Bool.and_true,bne_self_eq_false,beq_self_eq_true,if_true,if_false]
    ·simp only [h1,stE n1,krE n1,st7E n1,Hl n1,Fh n1,Fu n1,kpn _ n1,st0,kr0,st70,GR,Fb,Fc,o7,o3,o2,o11,GU,kp0,cond_true,cond_false,Bool.not_true,Bool.not_false,Bool.false_and,Bool.and_false,Bool.true_and,Bool.and_true,bne_self_eq_false,beq_self_eq_true,if_true,if_false]
   ·simp only [hV0,hV1,h0,stE n0,krE n0,st7E n0,Hl n0,Fh n0,Fu n0,kpn _ n0,st0,kr0,st70,GR,Fb,Fc,o7,o3,o2,o11,GU,kp0,cond_true,cond_false,Bool.not_true,Bool.not_false,Bool.false_and,Bool.and_false,Bool.true_and,Bool.and_true,bne_self_eq_false,beq_self_eq_true,if_true,if_false]
end
theorem Dk.ok:SOK Tryz.prog 81 (Dk.sp Dk):=by
 refine Cq (E:=⟨[(21,Ab.sp Ab),(27,Av.sp Av),(77,Az.sp Az),(78,Bt.sp Bt)],[],[]⟩) (L:=[]) ⟨(Aa Ab.ok (Aa Av.ok (Aa Az.ok (Aa Bt.ok Ac)))),Ai,Ad,Ah⟩ 60 Tryz.func81 (by decide) rfl Bs fun vs bl v bl' h=> ?_
 unfold Dk.sp at h
 split at h
 ·rename_i A2 A3 A8 A7 A6 A9 A5 A4
  simp only [Option.some.injEq,Prod.mk.injEq,true_and] at h
  obtain ⟨rfl,rfl⟩:=h
  refine ⟨?_,by simp [okV,Nat.blt],clo_spec 8 _ (by kernel_rfl),As (by kernel_rfl)⟩
  refine (Dk.run Ab Av Az Bt A2 A3 A8 A7 A6 A9 A5 A4).trans ?_
  refine (Dk.nat Ab Av Az Bt A2 A3 A8 A7 A6 A9 A5 A4 _).trans ?_
  kernel_rfl
 ·cases h
section
variable {R:Type} (FG:Int→Int→Int→Int→Int→Int→Int→Int→(Int×Int×Int×Int×Int×Int×Int)) (s0_0:Int) (A5:Int) (A4:Int) (AF:Int) (AE:Int) (AH:Int) (AG:Int) (AM:Int) (AL:Int)
def Bl.K (k:Int×Int×Int×Int×Int×Int×Int→R):R:=
 bif s0_0 !=0 then k (A5,A4,AF,AE,AH,AG,s0_0) else
 let t0:=FG A5 A4 AF AE AH AG AM AL
 k (t0.1,t0.2.1,t0.2.2.1,t0.2.2.2.1,t0.2.2.2.2.1,t0.2.2.2.2.2.1,t0.2.2.2.2.2.2)
theorem Bl.run:xfn Tryz.prog ⟨[(81,Dk.sp FG)],[],[]⟩ [] 60 Tryz.f44 [.pointer (some ⟨0,0,none⟩),.agg ⟨[.int .i64 A5,.int .i64 A4,.int .i64 AF,.int .i64 AE,.int .i64 AH,.int .i64 AG]⟩,.agg ⟨[.int .i64 AM,.int .i64 AL]⟩] [.cs [.int .i64 s0_0] 76]=Bl.K FG s0_0 A5 A4 AF AE AH AG AM AL (fun r=>some (.agg ⟨[.int .i64 r.1,.int .i64 r.2.1,.int .i64 r.2.2.1,.int .i64 r.2.2.2.1,.int .i64 r.2.2.2.2.1,.int .i64 r.2.2.2.2.2.1]⟩,[.cs [.int .i64 r.2.2.2.2.2.2] 76])):=by kernel_rfl
def Bl:Int×Int×Int×Int×Int×Int×Int:=Bl.K Dk s0_0 A5 A4 AF AE AH AG AM AL id
theorem Bl.nat (k:Int×Int×Int×Int×Int×Int×Int→R):Bl.K FG s0_0 A5 A4 AF AE AH AG AM AL k=k (Bl.K FG s0_0 A5 A4 AF AE AH AG AM AL id):=by
 simp only [Bl.K,acond k,id_eq]
theorem Bl.eq (s a0 a1 a2 a3 a4 a5 r0 r1:Int):Bl s a0 a1 a2 a3 a4 a5 r0 r1=st7 s ((a0,a1),(a2,a3),(a4,a5)) (dscale ((a0,a1),(a2,a3),(a4,a5)) (r0,r1)):=by
 simp only [Bl,Bl.K,id_eq,Dk.eq,st7]
end
theorem Bl.ok:SOK Tryz.prog 44 (Bl.sp Bl):=by
 refine Cq (E:=⟨[(81,Dk.sp Dk)],[],[]⟩) (L:=[]) ⟨(Aa Dk.ok Ac),Ai,Ad,Ah⟩ 60 Tryz.func44 (by decide) rfl Bs fun vs bl v bl' h=> ?_
 unfold Bl.sp at h
 split at h
 ·rename_i A5 A4 AF AE AH AG AM AL s0_0
  simp only [Option.some.injEq,Prod.mk.injEq,true_and] at h
  obtain ⟨rfl,rfl⟩:=h
  refine ⟨?_,by simp [okV,Nat.blt],clo_spec 8 _ (by kernel_rfl),As (by kernel_rfl)⟩
  refine (Bl.run Dk s0_0 A5 A4 AF AE AH AG AM AL).trans ?_
  refine (Bl.nat Dk s0_0 A5 A4 AF AE AH AG AM AL _).trans ?_
  kernel_rfl
 ·cases h
section
variable {R:Type} (CS:Int→Int→Int→Int→Int→(Int×Int×Int)) (C1:Int→Int→Int→Int→Int→Int→Int→(Int×Int×Int×Int×Int×Int×Int×Int)) (BS:Int→Int→Int→Int→Int→Int→(Bool)) (A2:Int) (A3:Int) (A8:Int) (A7:Int) (A6:Int) (A9:Int) (A5:Int) (A4:Int) (AF:Int) (AE:Int) (AH:Int) (AG:Int)
def Ej.K (k:Int×Int×Int×Int×Int×Int×Int→R):R:=
 let t0:=BS A2 A3 A8 A7 A6 A9
 bif !t0 then k (0,0,0,0,0,0,1) else
 let t1:=BS A5 A4 AF AE AH AG
 bif !t1 then k (0,0,0,0,0,0,1) else
 let t2:=CS 0 A2 A3 A5 A4
 let t3:=CS t2.2.2 A8 A7 AF AE
 let t4:=CS t3.2.2 A6 A9 AH AG
 let t5:=C1 t4.2.2 t2.1 t2.2.1 t3.1 t3.2.1 t4.1 t4.2.1
 k (t5.1,t5.2.1,t5.2.2.1,t5.2.2.2.1,t5.2.2.2.2.1,t5.2.2.2.2.2.1,t5.2.2.2.2.2.2.1)
theorem Ej.run:xfn Tryz.prog ⟨[(24,Bu.sp CS),(27,Av.sp C1),(77,Az.sp BS)],[],[]⟩ [] 60 Tryz.f83 [.agg ⟨[.int .i64 A2,.int .i64 A3,.int .i64 A8,.int .i64 A7,.int .i64 A6,.int .i64 A9]⟩,.agg ⟨[.int .i64 A5,.int .i64 A4,.int .i64 AF,.int .i64 AE,.int .i64 AH,.int .i64 AG]⟩] []=Ej.K CS C1 BS A2 A3 A8 A7 A6 A9 A5 A4 AF AE AH AG (fun r=>some (.tuple ⟨[.agg ⟨[.int .i64 r.1,.int .i64 r.2.1,.int .i64 r.2.2.1,.int .i64 r.2.2.2.1,.int .i64 r.2.2.2.2.1,.int .i64 r.2.2.2.2.2.1]⟩,.int .i64 r.2.2.2.2.2.2]⟩,[])):=by kernel_rfl
def Ej:Int×Int×Int×Int×Int×Int×Int:=Ej.K Bu Av Az A2 A3 A8 A7 A6 A9 A5 A4 AF AE AH AG id
theorem Ej.nat (k:Int×Int×Int×Int×Int×Int×Int→R):Ej.K CS C1 BS A2 A3 A8 A7 A6 A9 A5 A4 AF AE AH AG k=k (Ej.K CS C1 BS A2 A3 A8 A7 A6 A9 A5 A4 AF AE AH AG id):=by
 simp only [Ej.K,acond k,id_eq]
end
theorem Ej.ok:SOK Tryz.prog 83 (Ej.sp Ej):=by
 refine Cq (E:=⟨[(24,Bu.sp Bu),(27,Av.sp Av),(77,Az.sp Az)],[],[]⟩) (L:=[]) ⟨(Aa Bu.ok (Aa Av.ok (Aa Az.ok Ac))),Ai,Ad,Ah⟩ 60 Tryz.func83 (by decide) rfl Bs fun vs bl v bl' h=> ?_
 unfold Ej.sp at h
 split at h
 ·rename_i A2 A3 A8 A7 A6 A9 A5 A4 AF AE AH AG
  simp only [Option.some.injEq,Prod.mk.injEq,true_and] at h
  obtain ⟨rfl,rfl⟩:=h
  refine ⟨?_,by simp [okV,Nat.blt],clo_spec 8 _ (by kernel_rfl),As (by kernel_rfl)⟩
  refine (Ej.run Bu Av Az A2 A3 A8 A7 A6 A9 A5 A4 AF AE AH AG).trans ?_
  refine (Ej.nat Bu Av Az A2 A3 A8 A7 A6 A9 A5 A4 AF AE AH AG _).trans ?_
  kernel_rfl
 ·cases h
section
variable {R:Type} (FQ:Int→Int→Int→Int→Int→Int→Int→Int→Int→Int→Int→Int→(Int×Int×Int×Int×Int×Int×Int)) (s0_0:Int) (A5:Int) (A4:Int) (AF:Int) (AE:Int) (AH:Int) (AG:Int) (AM:Int) (AL:Int) (ER:Int) (EQ:Int) (EP:Int) (EO:Int)
def Da.K (k:Int×Int×Int×Int×Int×Int×Int→R):R:=
 bif s0_0 !=0 then k (A5,A4,AF,AE,AH,AG,s0_0) else
 let t0:=FQ A5 A4 AF AE AH AG AM AL ER EQ EP EO
 k (t0.1,t0.2.1,t0.2.2.1,t0.2.2.2.1,t0.2.2.2.2.1,t0.2.2.2.2.2.1,t0.2.2.2.2.2.2)
theorem Da.run:xfn Tryz.prog ⟨[(83,Ej.sp FQ)],[],[]⟩ [] 60 Tryz.f48 [.pointer (some ⟨0,0,none⟩),.agg ⟨[.int .i64 A5,.int .i64 A4,.int .i64 AF,.int .i64 AE,.int .i64 AH,.int .i64 AG]⟩,.agg ⟨[.int .i64 AM,.int .i64 AL,.int .i64 ER,.int .i64 EQ,.int .i64 EP,.int .i64 EO]⟩] [.cs [.int .i64 s0_0] 76]=Da.K FQ s0_0 A5 A4 AF AE AH AG AM AL ER EQ EP EO (fun r=>some (.agg ⟨[.int .i64 r.1,.int .i64 r.2.1,.int .i64 r.2.2.1,.int .i64 r.2.2.2.1,.int .i64 r.2.2.2.2.1,.int .i64 r.2.2.2.2.2.1]⟩,[.cs [.int .i64 r.2.2.2.2.2.2] 76])):=by kernel_rfl
def Da:Int×Int×Int×Int×Int×Int×Int:=Da.K Ej s0_0 A5 A4 AF AE AH AG AM AL ER EQ EP EO id
theorem Da.nat (k:Int×Int×Int×Int×Int×Int×Int→R):Da.K FQ s0_0 A5 A4 AF AE AH AG AM AL ER EQ EP EO k=k (Da.K FQ s0_0 A5 A4 AF AE AH AG AM AL ER EQ EP EO id):=by
 simp only [Da.K,acond k,id_eq]
end
theorem Da.ok:SOK Tryz.prog 48 (Da.sp Da):=by
 refine Cq (E:=⟨[(83,Ej.sp Ej)],[],[]⟩) (L:=[]) ⟨(Aa Ej.ok Ac),Ai,Ad,Ah⟩ 60 Tryz.func48 (by decide) rfl Bs fun vs bl v bl' h=> ?_
 unfold Da.sp at h
 split at h
 ·rename_i A5 A4 AF AE AH AG AM AL ER EQ EP EO s0_0
  simp only [Option.some.injEq,Prod.mk.injEq,true_and] at h
  obtain ⟨rfl,rfl⟩:=h
  refine ⟨?_,by simp [okV,Nat.blt],clo_spec 8 _ (by kernel_rfl),As (by kernel_rfl)⟩
  refine (Da.run Ej s0_0 A5 A4 AF AE AH AG AM AL ER EQ EP EO).trans ?_
  refine (Da.nat Ej s0_0 A5 A4 AF AE AH AG AM AL ER EQ EP EO _).trans ?_
  kernel_rfl
 ·cases h
section
variable {R:Type} (CW:Int→(Int×Int×Int×Int×Int×Int×Int×Int×Int×Int×Int)) (D4:Int→Int→Int→Int→Int→Int→Int→Int→Int→Int→Int→Int→Int→Int→(Bool)) (CT:Int→Int→Int→Int→Int→Int→Int→Int→Int→Int→Int→Int→(Int×Int×Int)) (DR:Int→Int→(Int)) (D0:Int→Int→Int→Int→(Int×Int×Int)) (AV:Int→Int→Int→(Int×Int×Int)) (AW:Int→Int→Int→(Int×Int×Int)) (BL:Int→Int→Int→(Int×Int×Int)) (C6:Int→Int→(Int×Int×Int)) (CN:Int→Int→(Int×Int×Int)) (CK:Int→Int→Int→Int→Int→Int→Int→Int→Int→(Int×Int×Int×Int×Int×Int×Int)) (AT:Int→Int→Int→Int→Int→(Int×Int×Int)) (AP:Int→Int→Int→Int→Int→(Int×Int×Int)) (AQ:Int→Int→Int→Int→Int→(Int×Int×Int)) (AS:Int→Int→Int→Int→Int→(Int×Int×Int)) (AR:Int→Int→Int→Int→(Int×Int×Int)) (AU:Int→Int→Int→Int→(Int×Int×Int)) (E5:Int→Int→Int→Int→Int→Int→Int→Int→Int→Int→Int→Int→Int→(Int×Int×Int×Int×Int×Int×Int)) (A2:Int) (A3:Int) (A8:Int) (A7:Int) (A6:Int) (A9:Int) (A5:Int) (A4:Int) (AF:Int) (AE:Int) (AH:Int) (AG:Int) (AM:Int) (AL:Int)
def Di.K {R:Type} (CW:Int→(Int×Int×Int×Int×Int×Int×Int×Int×Int×Int×Int)) (D4:Int→Int→Int→Int→Int→Int→Int→Int→Int→Int→Int→Int→Int→Int→(Bool)) (CT:Int→Int→Int→Int→Int→Int→Int→Int→Int→Int→Int→Int→(Int×Int×Int)) (DR:Int→Int→(Int)) (D0:Int→Int→Int→Int→(Int×Int×Int)) (AV:Int→Int→Int→(Int×Int×Int)) (AW:Int→Int→Int→(Int×Int×Int)) (BL:Int→Int→Int→(Int×Int×Int)) (C6:Int→Int→(Int×Int×Int)) (CN:Int→Int→(Int×Int×Int)) (CK:Int→Int→Int→Int→Int→Int→Int→Int→Int→(Int×Int×Int×Int×Int×Int×Int)) (AT:Int→Int→Int→Int→Int→(Int×Int×Int)) (AP:Int→Int→Int→Int→Int→(Int×Int×Int)) (AQ:Int→Int→Int→Int→Int→(Int×Int×Int)) (AS:Int→Int→Int→Int→Int→(Int×Int×Int)) (AR:Int→Int→Int→Int→(Int×Int×Int)) (AU:Int→Int→Int→Int→(Int×Int×Int)) (E5:Int→Int→Int→Int→Int→Int→Int→Int→Int→Int→Int→Int→Int→(Int×Int×Int×Int×Int×Int×Int)) (A2:Int) (A3:Int) (A8:Int) (A7:Int) (A6:Int) (A9:Int) (A5:Int) (A4:Int) (AF:Int) (AE:Int) (AH:Int) (AG:Int) (AM:Int) (AL:Int) (k:Int×Int×Int×Int×Int×Int×Int×Int×Int×Int×Int→R):R:=
 let t0:=D4 A2 A3 A8 A7 A6 A9 A5 A4 AF AE AH AG AM AL
 bif !t0 then
 let t1:=CW 1
 k (t1.1,t1.2.1,t1.2.2.1,t1.2.2.2.1,t1.2.2.2.2.1,t1.2.2.2.2.2.1,t1.2.2.2.2.2.2.1,t1.2.2.2.2.2.2.2.1,t1.2.2.2.2.2.2.2.2.1,t1.2.2.2.2.2.2.2.2.2.1,t1.2.2.2.2.2.2.2.2.2.2) else
 let t2:=CT A2 A3 A8 A7 A6 A9 A5 A4 AF AE AH AG
 bif t2.2.2 !=0 then
 let t3:=CW t2.2.2
 k (t3.1,t3.2.1,t3.2.2.1,t3.2.2.2.1,t3.2.2.2.2.1,t3.2.2.2.2.2.1,t3.2.2.2.2.2.2.1,t3.2.2.2.2.2.2.2.1,t3.2.2.2.2.2.2.2.2.1,t3.2.2.2.2.2.2.2.2.2.1,t3.2.2.2.2.2.2.2.2.2.2) else
 let t4:=DR t2.1 t2.2.1
 bif t4==0 then
 let t5:=CW 9
 k (t5.1,t5.2.1,t5.2.2.1,t5.2.2.2.1,t5.2.2.2.2.1,t5.2.2.2.2.2.1,t5.2.2.2.2.2.2.1,t5.2.2.2.2.2.2.2.1,t5.2.2.2.2.2.2.2.2.1,t5.2.2.2.2.2.2.2.2.2.1,t5.2.2.2.2.2.2.2.2.2.2) else
 let t6:=D0 t2.1 t2.2.1 AM AL
 bif t6.2.2 !=0 then
 let t7:=CW t6.2.2
 k (t7.1,t7.2.1,t7.2.2.1,t7.2.2.2.1,t7.2.2.2.2.1,t7.2.2.2.2.2.1,t7.2.2.2.2.2.2.1,t7.2.2.2.2.2.2.2.1,t7.2.2.2.2.2.2.2.2.1,t7.2.2.2.2.2.2.2.2.2.1,t7.2.2.2.2.2.2.2.2.2.2) else bif decide (t6.1<0) then
 let t8:=CW 15
 k (t8.1,t8.2.1,t8.2.2.1,t8.2.2.2.1,t8.2.2.2.2.1,t8.2.2.2.2.2.1,t8.2.2.2.2.2.2.1,t8.2.2.2.2.2.2.2.1,t8.2.2.2.2.2.2.2.2.1,t8.2.2.2.2.2.2.2.2.2.1,t8.2.2.2.2.2.2.2.2.2.2) else bif decide (t4<0) then
 let t9:=AW 0 t6.1 t6.2.1
 let t10:=BL t9.2.2 t9.1 t9.2.1
 let t11:=CK t10.2.2 A2 A3 A8 A7 A6 A9 AM AL
 let t12:=AQ t11.2.2.2.2.2.2 AM AL t2.1 t2.2.1
 let t13:=AP t12.2.2 t10.1 t10.2.1 t12.1 t12.2.1
 let t14:=CK t13.2.2 A5 A4 AF AE AH AG t13.1 t13.2.1
 let t15:=E5 t14.2.2.2.2.2.2 t11.1 t11.2.1 t11.2.2.1 t11.2.2.2.1 t11.2.2.2.2.1 t11.2.2.2.2.2.1 t14.1 t14.2.1 t14.2.2.1 t14.2.2.2.1 t14.2.2.2.2.1 t14.2.2.2.2.2.1
 bif t15.2.2.2.2.2.2 !=0 then
 let t16:=CW t15.2.2.2.2.2.2
 k (t16.1,t16.2.1,t16.2.2.1,t16.2.2.2.1,t16.2.2.2.2.1,t16.2.2.2.2.2.1,t16.2.2.2.2.2.2.1,t16.2.2.2.2.2.2.2.1,t16.2.2.2.2.2.2.2.2.1,t16.2.2.2.2.2.2.2.2.2.1,t16.2.2.2.2.2.2.2.2.2.2) else k (t15.1,t15.2.1,t15.2.2.1,t15.2.2.2.1,t15.2.2.2.2.1,t15.2.2.2.2.2.1,t2.1,t2.2.1,t10.1,t10.2.1,0) else
 let t17:=AW 0 t6.1 t6.2.1
 let t18:=CK t17.2.2 A2 A3 A8 A7 A6 A9 AM AL
 let t19:=AQ t18.2.2.2.2.2.2 AM AL t2.1 t2.2.1
 let t20:=AP t19.2.2 t17.1 t17.2.1 t19.1 t19.2.1
 let t21:=CK t20.2.2 A5 A4 AF AE AH AG t20.1 t20.2.1
 let t22:=E5 t21.2.2.2.2.2.2 t18.1 t18.2.1 t18.2.2.1 t18.2.2.2.1 t18.2.2.2.2.1 t18.2.2.2.2.2.1 t21.1 t21.2.1 t21.2.2.1 t21.2.2.2.1 t21.2.2.2.2.1 t21.2.2.2.2.2.1
 bif t22.2.2.2.2.2.2 !=0 then
 let t23:=CW t22.2.2.2.2.2.2
 k (t23.1,t23.2.1,t23.2.2.1,t23.2.2.2.1,t23.2.2.2.2.1,t23.2.2.2.2.2.1,t23.2.2.2.2.2.2.1,t23.2.2.2.2.2.2.2.1,t23.2.2.2.2.2.2.2.2.1,t23.2.2.2.2.2.2.2.2.2.1,t23.2.2.2.2.2.2.2.2.2.2) else k (t22.1,t22.2.1,t22.2.2.1,t22.2.2.2.1,t22.2.2.2.2.1,t22.2.2.2.2.2.1,t2.1,t2.2.1,t17.1,t17.2.1,0)
theorem Di.run:xfn Tryz.prog ⟨[(36,Cw.sp CW),(37,Cv.sp D4),(38,Ck.sp CT),(39,Ds.sp DR),(40,Cd.sp D0),(41,Er.sp AV AW BL),(42,Cg.sp C6),(43,De.sp CN),(44,Bl.sp CK),(45,Ef.sp AT AP AQ AS),(46,Ak.sp AR),(47,Au.sp AU),(48,Da.sp E5)],[],[]⟩ [] 60 Tryz.f11 [.agg ⟨[.int .i64 A2,.int .i64 A3,.int .i64 A8,.int .i64 A7,.int .i64 A6,.int .i64 A9]⟩,.agg ⟨[.int .i64 A5,.int .i64 A4,.int .i64 AF,.int .i64 AE,.int .i64 AH,.int .i64 AG]⟩,.agg ⟨[.int .i64 AM,.int .i64 AL]⟩] []=Di.K CW D4 CT DR D0 AV AW BL C6 CN CK AT AP AQ AS AR AU E5 A2 A3 A8 A7 A6 A9 A5 A4 AF AE AH AG AM AL (fun r=>some (.tuple ⟨[.agg ⟨[.int .i64 r.1,.int .i64 r.2.1,.int .i64 r.2.2.1,.int .i64 r.2.2.2.1,.int .i64 r.2.2.2.2.1,.int .i64 r.2.2.2.2.2.1]⟩,.agg ⟨[.int .i64 r.2.2.2.2.2.2.1,.int .i64 r.2.2.2.2.2.2.2.1]⟩,.agg ⟨[.int .i64 r.2.2.2.2.2.2.2.2.1,.int .i64 r.2.2.2.2.2.2.2.2.2.1]⟩,.int .i64 r.2.2.2.2.2.2.2.2.2.2]⟩,[])):=by kernel_rfl
def Di:Int×Int×Int×Int×Int×Int×Int×Int×Int×Int×Int:=Di.K Cw Cv Ck Ds Cd Aw Be Bg Cg De Bl Aj Ap Aq Ar Ak Au Da A2 A3 A8 A7 A6 A9 A5 A4 AF AE AH AG AM AL id
theorem Di.nat (k:Int×Int×Int×Int×Int×Int×Int×Int×Int×Int×Int→R):Di.K CW D4 CT DR D0 AV AW BL C6 CN CK AT AP AQ AS AR AU E5 A2 A3 A8 A7 A6 A9 A5 A4 AF AE AH AG AM AL k=k (Di.K CW D4 CT DR D0 AV AW BL C6 CN CK AT AP AQ AS AR AU E5 A2 A3 A8 A7 A6 A9 A5 A4 AF AE AH AG AM AL id):=by
 simp only [Di.K,acond k,id_eq]
end
theorem IK:((1:Int) !=0)=true:=rfl
theorem Di.ok:SOK Tryz.prog 11 (Di.sp Di):=by
 refine Cq (E:=⟨[(36,Cw.sp Cw),(37,Cv.sp Cv),(38,Ck.sp Ck),(39,Ds.sp Ds),(40,Cd.sp Cd),(41,Er.sp Aw Be Bg),(42,Cg.sp Cg),(43,De.sp De),(44,Bl.sp Bl),(45,Ef.sp Aj Ap Aq Ar),(46,Ak.sp Ak),(47,Au.sp Au),(48,Da.sp Da)],[],[]⟩) (L:=[]) ⟨(Aa Cw.ok (Aa Cv.ok (Aa Ck.ok (Aa Ds.ok (Aa Cd.ok (Aa Er.ok (Aa Cg.ok (Aa De.ok (Aa Bl.ok (Aa Ef.ok (Aa Ak.ok (Aa Au.ok (Aa Da.ok Ac))))))))))))),Ai,Ad,Ah⟩ 60 Tryz.func11 (by decide) rfl Bs fun vs bl v bl' h=> ?_
 unfold Di.sp at h
 split at h
 ·rename_i A2 A3 A8 A7 A6 A9 A5 A4 AF AE AH AG AM AL
  simp only [Option.some.injEq,Prod.mk.injEq,true_and] at h
  obtain ⟨rfl,rfl⟩:=h
  refine ⟨?_,by simp [okV,Nat.blt],clo_spec 8 _ (by kernel_rfl),As (by kernel_rfl)⟩
  refine (Di.run Cw Cv Ck Ds Cd Aw Be Bg Cg De Bl Aj Ap Aq Ar Ak Au Da A2 A3 A8 A7 A6 A9 A5 A4 AF AE AH AG AM AL).trans ?_
  refine (Di.nat Cw Cv Ck Ds Cd Aw Be Bg Cg De Bl Aj Ap Aq Ar Ak Au Da A2 A3 A8 A7 A6 A9 A5 A4 AF AE AH AG AM AL _).trans ?_
  kernel_rfl
 ·cases h
def Ek.K {R:Type} (a0:Int) (k:Int×Int×Int→R):R:=
 bif decide (a0>64) then k (0,0,3) else bif decide (a0< -64) then k (0,0,3) else k (IntKind.i64.wrap (a0*16777216),IntKind.i64.wrap (a0*16777216),0)
theorem Ek.run (a0:Int):xfn Tryz.prog ⟨[],[],[]⟩ [] 60 Tryz.f15 [.int .i64 a0] []=Ek.K a0 (fun r=>some (.tuple ⟨[.agg ⟨[.int .i64 r.1,.int .i64 r.2.1]⟩,.int .i64 r.2.2]⟩,[])):=by kernel_rfl
def Ek (a0:Int):Int×Int×Int:=Ek.K a0 id
theorem Ek.nat {R:Type} (a0:Int) (k:Int×Int×Int→R):Ek.K a0 k=k (Ek.K a0 id):=by
 simp only [Ek.K,acond k,id_eq]
theorem Ek.ok:SOK Tryz.prog 15 (Ek.sp Ek):=by
 refine Cq (E:=⟨[],[],[]⟩) (L:=[]) ⟨Ac,Ai,Ad,Ah⟩ 60 Tryz.func15 (by decide) rfl Bs fun vs bl v bl' h=> ?_
 unfold Ek.sp at h
 split at h
 ·rename_i a0
  simp only [Option.some.injEq,Prod.mk.injEq,true_and] at h
  obtain ⟨rfl,rfl⟩:=h
  refine ⟨?_,by simp [okV,Nat.blt],clo_spec 8 _ (by kernel_rfl),As (by kernel_rfl)⟩
  refine (Ek.run a0).trans ?_
  refine (Ek.nat a0 _).trans ?_
  kernel_rfl
 ·cases h
section
variable {R:Type} (AI:Int→Int→(Bool)) (DR:Int→Int→(Int)) (A2:Int) (A3:Int)
def Do.K (k:(Int)→R):R:=
 let t0:=AI A2 A3
 bif !t0 then k (0) else
 let t1:=DR A2 A3
 bif t1== -1 then k (1) else bif t1==1 then k (2) else k (3)
theorem Do.run:xfn Tryz.prog ⟨[(21,Ab.sp AI),(39,Ds.sp DR)],[],[]⟩ [] 60 Tryz.f52 [.agg ⟨[.int .i64 A2,.int .i64 A3]⟩] []=Do.K AI DR A2 A3 (fun r=>some (.int .i64 r,[])):=by kernel_rfl
def Do:Int:=Do.K Ab Ds A2 A3 id
theorem Do.nat (k:(Int)→R):Do.K AI DR A2 A3 k=k (Do.K AI DR A2 A3 id):=by
 simp only [Do.K,acond k,id_eq]
end
theorem Do.ok:SOK Tryz.prog 52 (Do.sp Do):=by
 refine Cq (E:=⟨[(21,Ab.sp Ab),(39,Ds.sp Ds)],[],[]⟩) (L:=[]) ⟨(Aa Ab.ok (Aa Ds.ok Ac)),Ai,Ad,Ah⟩ 60 Tryz.func52 (by decide) rfl Bs fun vs bl v bl' h=> ?_
 unfold Do.sp at h
 split at h
 ·rename_i A2 A3
  simp only [Option.some.injEq,Prod.mk.injEq,true_and] at h
  obtain ⟨rfl,rfl⟩:=h
  refine ⟨?_,by simp [okV,Nat.blt],clo_spec 8 _ (by kernel_rfl),As (by kernel_rfl)⟩
  refine (Do.run Ab Ds A2 A3).trans ?_
  refine (Do.nat Ab Ds A2 A3 _).trans ?_
  kernel_rfl
 ·cases h
section
variable {R:Type} (D4:Int→Int→Int→Int→Int→Int→Int→Int→Int→Int→Int→Int→Int→Int→(Bool)) (CT:Int→Int→Int→Int→Int→Int→Int→Int→Int→Int→Int→Int→(Int×Int×Int)) (D0:Int→Int→Int→Int→(Int×Int×Int)) (F0:Int→Int→(Int)) (A2:Int) (A3:Int) (A8:Int) (A7:Int) (A6:Int) (A9:Int) (A5:Int) (A4:Int) (AF:Int) (AE:Int) (AH:Int) (AG:Int) (AM:Int) (AL:Int)
def Dz.K (k:Int×Int→R):R:=
 let t0:=D4 A2 A3 A8 A7 A6 A9 A5 A4 AF AE AH AG AM AL
 bif !t0 then k (0,1) else
 let t1:=CT A2 A3 A8 A7 A6 A9 A5 A4 AF AE AH AG
 bif t1.2.2 !=0 then k (0,t1.2.2) else
 let t2:=D0 t1.1 t1.2.1 AM AL
 bif t2.2.2 !=0 then k (0,t2.2.2) else
 let t3:=F0 t2.1 t2.2.1
 k (t3,0)
theorem Dz.run:xfn Tryz.prog ⟨[(37,Cv.sp D4),(38,Ck.sp CT),(40,Cd.sp D0),(52,Do.sp F0)],[],[]⟩ [] 60 Tryz.f16 [.agg ⟨[.int .i64 A2,.int .i64 A3,.int .i64 A8,.int .i64 A7,.int .i64 A6,.int .i64 A9]⟩,.agg ⟨[.int .i64 A5,.int .i64 A4,.int .i64 AF,.int .i64 AE,.int .i64 AH,.int .i64 AG]⟩,.agg ⟨[.int .i64 AM,.int .i64 AL]⟩] []=Dz.K D4 CT D0 F0 A2 A3 A8 A7 A6 A9 A5 A4 AF AE AH AG AM AL (fun r=>some (.tuple ⟨[.int .i64 r.1,.int .i64 r.2]⟩,[])):=by kernel_rfl
def Dz:Int×Int:=Dz.K Cv Ck Cd Do A2 A3 A8 A7 A6 A9 A5 A4 AF AE AH AG AM AL id
theorem Dz.nat (k:Int×Int→R):Dz.K D4 CT D0 F0 A2 A3 A8 A7 A6 A9 A5 A4 AF AE AH AG AM AL k=k (Dz.K D4 CT D0 F0 A2 A3 A8 A7 A6 A9 A5 A4 AF AE AH AG AM AL id):=by
 simp only [Dz.K,acond k,id_eq]
end
theorem Dz.ok:SOK Tryz.prog 16 (Dz.sp Dz):=by
 refine Cq (E:=⟨[(37,Cv.sp Cv),(38,Ck.sp Ck),(40,Cd.sp Cd),(52,Do.sp Do)],[],[]⟩) (L:=[]) ⟨(Aa Cv.ok (Aa Ck.ok (Aa Cd.ok (Aa Do.ok Ac)))),Ai,Ad,Ah⟩ 60 Tryz.func16 (by decide) rfl Bs fun vs bl v bl' h=> ?_
 unfold Dz.sp at h
 split at h
 ·rename_i A2 A3 A8 A7 A6 A9 A5 A4 AF AE AH AG AM AL
  simp only [Option.some.injEq,Prod.mk.injEq,true_and] at h
  obtain ⟨rfl,rfl⟩:=h
  refine ⟨?_,by simp [okV,Nat.blt],clo_spec 8 _ (by kernel_rfl),As (by kernel_rfl)⟩
  refine (Dz.run Cv Ck Cd Do A2 A3 A8 A7 A6 A9 A5 A4 AF AE AH AG AM AL).trans ?_
  refine (Dz.nat Cv Ck Cd Do A2 A3 A8 A7 A6 A9 A5 A4 AF AE AH AG AM AL _).trans ?_
  kernel_rfl
 ·cases h
def Ed.K {R:Type} (k:Int×Int→R):R:=
 k (16777216,16777216)
theorem Ed.run:xfn Tryz.prog ⟨[],[],[]⟩ [] 60 Tryz.f10 [] []=Ed.K (fun r=>some (.agg ⟨[.int .i64 r.1,.int .i64 r.2]⟩,[])):=by kernel_rfl
def Ed:Int×Int:=Ed.K id
theorem Ed.nat {R:Type} (k:Int×Int→R):Ed.K k=k (Ed.K id):=by
 simp only [Ed.K,acond k,id_eq]
theorem Ed.ok:SOK Tryz.prog 10 (Ed.sp Ed):=by
 refine Cq (E:=⟨[],[],[]⟩) (L:=[]) ⟨Ac,Ai,Ad,Ah⟩ 60 Tryz.func10 (by decide) rfl Bs fun vs bl v bl' h=> ?_
 unfold Ed.sp at h
 split at h
 ·simp only [Option.some.injEq,Prod.mk.injEq,true_and] at h
  obtain ⟨rfl,rfl⟩:=h
  refine ⟨?_,by simp [okV,Nat.blt],clo_spec 8 _ (by kernel_rfl),As (by kernel_rfl)⟩
  refine (Ed.run).trans ?_
  refine (Ed.nat _).trans ?_
  kernel_rfl
 ·cases h
def El.K {R:Type} (EL:(Int×Int)) (k:Int×Int×Int×Int×Int×Int→R):R:=
 k (0,0,0,0,EL.fst,EL.snd)
theorem El.run (EL:(Int×Int)):xfn Tryz.prog ⟨[(10,Ed.sp EL)],[],[]⟩ [] 60 Tryz.f17 [] []=El.K EL (fun r=>some (.agg ⟨[.int .i64 r.1,.int .i64 r.2.1,.int .i64 r.2.2.1,.int .i64 r.2.2.2.1,.int .i64 r.2.2.2.2.1,.int .i64 r.2.2.2.2.2]⟩,[])):=by kernel_rfl
def El:Int×Int×Int×Int×Int×Int:=El.K Ed id
theorem El.nat {R:Type} (EL:(Int×Int)) (k:Int×Int×Int×Int×Int×Int→R):El.K EL k=k (El.K EL id):=by
 simp only [El.K,acond k,id_eq]
theorem El.ok:SOK Tryz.prog 17 (El.sp El):=by
 refine Cq (E:=⟨[(10,Ed.sp Ed)],[],[]⟩) (L:=[]) ⟨(Aa Ed.ok Ac),Ai,Ad,Ah⟩ 60 Tryz.func17 (by decide) rfl Bs fun vs bl v bl' h=> ?_
 unfold El.sp at h
 split at h
 ·simp only [Option.some.injEq,Prod.mk.injEq,true_and] at h
  obtain ⟨rfl,rfl⟩:=h
  refine ⟨?_,by simp [okV,Nat.blt],clo_spec 8 _ (by kernel_rfl),As (by kernel_rfl)⟩
  refine (El.run Ed).trans ?_
  refine (El.nat Ed _).trans ?_
  kernel_rfl
 ·cases h
section
variable {R:Type} (AI:Int→Int→(Bool)) (BV:Int→Int→(Int×Int×Int)) (AV:Int→Int→Int→(Int×Int×Int)) (AW:Int→Int→Int→(Int×Int×Int)) (BL:Int→Int→Int→(Int×Int×Int)) (C6:Int→Int→(Int×Int×Int)) (AT:Int→Int→Int→Int→Int→(Int×Int×Int)) (AP:Int→Int→Int→Int→Int→(Int×Int×Int)) (AQ:Int→Int→Int→Int→Int→(Int×Int×Int)) (AS:Int→Int→Int→Int→Int→(Int×Int×Int)) (AR:Int→Int→Int→Int→(Int×Int×Int)) (CO:(Int×Int)) (BK:Int→Int→Int→Int→(Int×Int×Int)) (A2:Int) (A3:Int)
def Db.K {R:Type} (AI:Int→Int→(Bool)) (BV:Int→Int→(Int×Int×Int)) (AV:Int→Int→Int→(Int×Int×Int)) (AW:Int→Int→Int→(Int×Int×Int)) (BL:Int→Int→Int→(Int×Int×Int)) (C6:Int→Int→(Int×Int×Int)) (AT:Int→Int→Int→Int→Int→(Int×Int×Int)) (AP:Int→Int→Int→Int→Int→(Int×Int×Int)) (AQ:Int→Int→Int→Int→Int→(Int×Int×Int)) (AS:Int→Int→Int→Int→Int→(Int×Int×Int)) (AR:Int→Int→Int→Int→(Int×Int×Int)) (CO:(Int×Int)) (BK:Int→Int→Int→Int→(Int×Int×Int)) (A2:Int) (A3:Int) (k:Int×Int×Int→R):R:=
 let t0:=AI A2 A3
 bif !t0 then k (0,0,1) else bif decide (A2<16777216) then k (0,0,2) else
 let t1:=AV 0 A2 A3
 let t2:=AS t1.2.2 CO.fst CO.snd t1.1 t1.2.1
 let t3:=AP t2.2.2 CO.fst CO.snd t2.1 t2.2.1
 let t4:=AW t3.2.2 t3.1 t3.2.1
 bif t4.2.2 !=0 then k (0,0,t4.2.2) else k (t4.1,t4.2.1,0)
theorem Db.run:xfn Tryz.prog ⟨[(21,Ab.sp AI),(23,Br.sp BV),(41,Er.sp AV AW BL),(42,Cg.sp C6),(45,Ef.sp AT AP AQ AS),(46,Ak.sp AR),(53,Dc.sp CO),(54,Bb.sp BK)],[],[]⟩ [] 60 Tryz.f18 [.agg ⟨[.int .i64 A2,.int .i64 A3]⟩] []=Db.K AI BV AV AW BL C6 AT AP AQ AS AR CO BK A2 A3 (fun r=>some (.tuple ⟨[.agg ⟨[.int .i64 r.1,.int .i64 r.2.1]⟩,.int .i64 r.2.2]⟩,[])):=by kernel_rfl
def Db:Int×Int×Int:=Db.K Ab Br Aw Be Bg Cg Aj Ap Aq Ar Ak Dc Bb A2 A3 id
theorem Db.nat (k:Int×Int×Int→R):Db.K AI BV AV AW BL C6 AT AP AQ AS AR CO BK A2 A3 k=k (Db.K AI BV AV AW BL C6 AT AP AQ AS AR CO BK A2 A3 id):=by
 simp only [Db.K,acond k,id_eq]
end
theorem Db.ok:SOK Tryz.prog 18 (Db.sp Db):=by
 refine Cq (E:=⟨[(21,Ab.sp Ab),(23,Br.sp Br),(41,Er.sp Aw Be Bg),(42,Cg.sp Cg),(45,Ef.sp Aj Ap Aq Ar),(46,Ak.sp Ak),(53,Dc.sp Dc),(54,Bb.sp Bb)],[],[]⟩) (L:=[]) ⟨(Aa Ab.ok (Aa Br.ok (Aa Er.ok (Aa Cg.ok (Aa Ef.ok (Aa Ak.ok (Aa Dc.ok (Aa Bb.ok Ac)))))))),Ai,Ad,Ah⟩ 60 Tryz.func18 (by decide) rfl Bs fun vs bl v bl' h=> ?_
 unfold Db.sp at h
 split at h
 ·rename_i A2 A3
  simp only [Option.some.injEq,Prod.mk.injEq,true_and] at h
  obtain ⟨rfl,rfl⟩:=h
  refine ⟨?_,by simp [okV,Nat.blt],clo_spec 8 _ (by kernel_rfl),As (by kernel_rfl)⟩
  refine (Db.run Ab Br Aw Be Bg Cg Aj Ap Aq Ar Ak Dc Bb A2 A3).trans ?_
  refine (Db.nat Ab Br Aw Be Bg Cg Aj Ap Aq Ar Ak Dc Bb A2 A3 _).trans ?_
  kernel_rfl
 ·cases h
section
variable {R:Type} (ES:Int→Int→Int→Int→Int→Int→Int→Int→Int→Int→Int→Int→Int→Int→(Int×Int×Int×Int×Int×Int×Int×Int×Int×Int×Int)) (FC:Int→(Int×Int×Int)) (EZ:Int→Int→Int→Int→Int→Int→Int→Int→Int→Int→Int→Int→Int→Int→(Int×Int)) (BT:(Int×Int×Int×Int×Int×Int)) (EJ:Int→Int→(Int×Int×Int))
def Dr.K (k:(Bool)→R):R:=
 let t0:=FC 2
 let t1:=EZ BT.fst BT.snd.fst BT.snd.snd.fst BT.snd.snd.snd.fst BT.snd.snd.snd.snd.fst BT.snd.snd.snd.snd.snd BT.fst BT.snd.fst BT.snd.snd.fst BT.snd.snd.snd.fst BT.snd.snd.snd.snd.fst BT.snd.snd.snd.snd.snd t0.1 t0.2.1
 bif t1.2==0 then
 let t2:=ES BT.fst BT.snd.fst BT.snd.snd.fst BT.snd.snd.snd.fst BT.snd.snd.snd.snd.fst BT.snd.snd.snd.snd.snd BT.fst BT.snd.fst BT.snd.snd.fst BT.snd.snd.snd.fst BT.snd.snd.snd.snd.fst BT.snd.snd.snd.snd.snd t0.1 t0.2.1
 bif t2.2.2.2.2.2.2.2.2.2.2==0 then
 let t3:=EJ t0.1 t0.2.1
 bif t3.2.2==0 then bif t1.1==2 then bif t2.1==BT.fst&&t2.2.1==BT.snd.fst&&(t2.2.2.1==BT.snd.snd.fst&&t2.2.2.2.1==BT.snd.snd.snd.fst&&(t2.2.2.2.2.1==BT.snd.snd.snd.snd.fst&&t2.2.2.2.2.2.1==BT.snd.snd.snd.snd.snd)) then bif t3.1==14529495 then k (t3.2.1==14529496) else k (false) else k (false) else k (false) else k (false) else k (false) else k (false)
theorem Dr.run:xfn Tryz.prog ⟨[(11,Di.sp ES),(15,Ek.sp FC),(16,Dz.sp EZ),(17,El.sp BT),(18,Db.sp EJ)],[],[]⟩ [] 60 Tryz.f5 [] []=Dr.K ES FC EZ BT EJ (fun r=>some (.bool r,[])):=by kernel_rfl
end
def Dr:Bool:=Dr.K Di Ek Dz El Db id
theorem Dr.nat {R:Type} (ES:Int→Int→Int→Int→Int→Int→Int→Int→Int→Int→Int→Int→Int→Int→(Int×Int×Int×Int×Int×Int×Int×Int×Int×Int×Int)) (FC:Int→(Int×Int×Int)) (EZ:Int→Int→Int→Int→Int→Int→Int→Int→Int→Int→Int→Int→Int→Int→(Int×Int)) (BT:(Int×Int×Int×Int×Int×Int)) (EJ:Int→Int→(Int×Int×Int)) (k:(Bool)→R):Dr.K ES FC EZ BT EJ k=k (Dr.K ES FC EZ BT EJ id):=by
 simp only [Dr.K,acond k,id_eq]
theorem Ps:Dr=true:=by kernel_rfl
theorem Dr.ok:SOK Tryz.prog 5 (Dr.sp Dr):=by
 refine Cq (E:=⟨[(11,Di.sp Di),(15,Ek.sp Ek),(16,Dz.sp Dz),(17,El.sp El),(18,Db.sp Db)],[],[]⟩) (L:=[]) ⟨(Aa Di.ok (Aa Ek.ok (Aa Dz.ok (Aa El.ok (Aa Db.ok Ac))))),Ai,Ad,Ah⟩ 60 Tryz.func5 (by decide) rfl Bs fun vs bl v bl' h=> ?_
 unfold Dr.sp at h
 split at h
 ·simp only [Option.some.injEq,Prod.mk.injEq,true_and] at h
  obtain ⟨rfl,rfl⟩:=h
  refine ⟨?_,by simp [okV,Nat.blt],clo_spec 8 _ (by kernel_rfl),As (by kernel_rfl)⟩
  refine (Dr.run Di Ek Dz El Db).trans ?_
  refine (Dr.nat Di Ek Dz El Db _).trans ?_
  kernel_rfl
 ·cases h
section
variable {R:Type} (EM:TF5 (Bool)) (EK:TF5 Bool) (F7:TF20 (Bool)) (F2:TF20 Bool) (A2:Bool) (A3:ByteArray) (A8:Bool) (A7:ByteArray) (A6:Bool) (A9:ByteArray) (AB:Bool) (AA:ByteArray) (AD:Bool) (AC:ByteArray) (BI:Bool) (BH:ByteArray) (BG:Bool) (BF:ByteArray) (BE:Bool) (BD:ByteArray) (BC:Bool) (BB:ByteArray) (BA:Bool) (B9:ByteArray) (B8:Bool) (B7:ByteArray) (B6:Bool) (B5:ByteArray) (B4:Bool) (B3:ByteArray) (B2:Bool) (AZ:ByteArray) (AY:Bool) (AX:ByteArray) (CH:Bool) (CG:ByteArray) (CF:Bool) (CE:ByteArray) (CD:Bool) (CC:ByteArray) (CB:Bool) (CA:ByteArray) (C9:Bool) (C8:ByteArray)
noncomputable def Cc.K (k:(Bool)→Option R):Option R:=
 let t0:=EK A2 A3 A8 A7 A6 A9 AB AA AD AC
 bif t0 then
 let t1:=EM A2 A3 A8 A7 A6 A9 AB AA AD AC
 bif t1 then
 let t2:=EK BI BH BG BF BE BD BC BB BA B9
 bif t2 then
 let t3:=EM BI BH BG BF BE BD BC BB BA B9
 bif t3 then
 let t4:=EK B8 B7 B6 B5 B4 B3 B2 AZ AY AX
 bif t4 then
 let t5:=EM B8 B7 B6 B5 B4 B3 B2 AZ AY AX
 bif t5 then
 let t6:=EK CH CG CF CE CD CC CB CA C9 C8
 bif t6 then
 let t7:=EM CH CG CF CE CD CC CB CA C9 C8
 bif t7 then
 let t8:=F2 A2 A3 A8 A7 A6 A9 AB AA AD AC BI BH BG BF BE BD BC BB BA B9 B8 B7 B6 B5 B4 B3 B2 AZ AY AX CH CG CF CE CD CC CB CA C9 C8
 bif t8 then
 let t9:=F7 A2 A3 A8 A7 A6 A9 AB AA AD AC BI BH BG BF BE BD BC BB BA B9 B8 B7 B6 B5 B4 B3 B2 AZ AY AX CH CG CF CE CD CC CB CA C9 C8
 k (t9) else none else k (false) else none else k (false) else none else k (false) else none else k (false) else none
theorem Cc.run:xfn Tryz.prog ⟨[(19,Bp.sp EM EK),(20,Bj.sp F7 F2)],[],[]⟩ [] 60 Tryz.f6 [.agg ⟨.bool A2:: .string A3:: .bool A8:: .string A7:: .bool A6:: .string A9:: .bool AB:: .string AA:: .bool AD:: .string AC:: .bool BI:: .string BH:: .bool BG:: .string BF:: .bool BE:: .string BD:: .bool BC:: .string BB:: .bool BA:: .string B9:: .bool B8:: .string B7:: .bool B6:: .string B5:: .bool B4:: .string B3:: .bool B2:: .string AZ:: .bool AY:: .string AX:: .bool CH:: .string CG:: .bool CF:: .string CE:: .bool CD:: .string CC:: .bool CB:: .string CA:: .bool C9:: .string C8::[]⟩] []=Cc.K EM EK F7 F2 A2 A3 A8 A7 A6 A9 AB AA AD AC BI BH BG BF BE BD BC BB BA B9 B8 B7 B6 B5 B4 B3 B2 AZ AY AX CH CG CF CE CD CC CB CA C9 C8 (fun r=>some (.bool r,[])):=by kernel_rfl
noncomputable def Cc.o:Option (Bool):=Cc.K Bp Bp.pre Bj Bj.pre A2 A3 A8 A7 A6 A9 AB AA AD AC BI BH BG BF BE BD BC BB BA B9 B8 B7 B6 B5 B4 B3 B2 AZ AY AX CH CG CF CE CD CC CB CA C9 C8 some
noncomputable def Cc.pre:Bool:=(Cc.o A2 A3 A8 A7 A6 A9 AB AA AD AC BI BH BG BF BE BD BC BB BA B9 B8 B7 B6 B5 B4 B3 B2 AZ AY AX CH CG CF CE CD CC CB CA C9 C8).isSome
noncomputable def Cc:Bool:=(Cc.o A2 A3 A8 A7 A6 A9 AB AA AD AC BI BH BG BF BE BD BC BB BA B9 B8 B7 B6 B5 B4 B3 B2 AZ AY AX CH CG CF CE CD CC CB CA C9 C8).getD default
theorem Cc.nat (k:(Bool)→Option R):Cc.K EM EK F7 F2 A2 A3 A8 A7 A6 A9 AB AA AD AC BI BH BG BF BE BD BC BB BA B9 B8 B7 B6 B5 B4 B3 B2 AZ AY AX CH CG CF CE CD CC CB CA C9 C8 k=(Cc.K EM EK F7 F2 A2 A3 A8 A7 A6 A9 AB AA AD AC BI BH BG BF BE BD BC BB BA B9 B8 B7 B6 B5 B4 B3 B2 AZ AY AX CH CG CF CE CD CC CB CA C9 C8 some).bind k:=by
 simp only [Cc.K,bcond,Option.bind_some,Option.bind_none]
end
theorem Qe {m:Nat} {q:Q} (h:q.Le m) (hm:m≤65535):q.Bd 2:=by
 have e:p8 2=65536:=by decide
 have k:∀ {c:Int},c.natAbs≤m→Bd 2 c:=fun h=>by unfold Bd; omega
 exact ⟨k h.c0,k h.c1,k h.c2,k h.c3,k h.d⟩
theorem Cc.spec (n0:Bool) (s0:ByteArray) (n1:Bool) (s1:ByteArray) (n2:Bool) (s2:ByteArray) (n3:Bool) (s3:ByteArray) (n4:Bool) (s4:ByteArray) (n5:Bool) (s5:ByteArray) (n6:Bool) (s6:ByteArray) (n7:Bool) (s7:ByteArray) (n8:Bool) (s8:ByteArray) (n9:Bool) (s9:ByteArray) (n10:Bool) (s10:ByteArray) (n11:Bool) (s11:ByteArray) (n12:Bool) (s12:ByteArray) (n13:Bool) (s13:ByteArray) (n14:Bool) (s14:ByteArray) (n15:Bool) (s15:ByteArray) (n16:Bool) (s16:ByteArray) (n17:Bool) (s17:ByteArray) (n18:Bool) (s18:ByteArray) (n19:Bool) (s19:ByteArray) (z0:s0.size≤8589934592) (z1:s1.size≤8589934592) (z2:s2.size≤8589934592) (z3:s3.size≤8589934592) (z4:s4.size≤8589934592) (z5:s5.size≤8589934592) (z6:s6.size≤8589934592) (z7:s7.size≤8589934592) (z8:s8.size≤8589934592) (z9:s9.size≤8589934592) (z10:s10.size≤8589934592) (z11:s11.size≤8589934592) (z12:s12.size≤8589934592) (z13:s13.size≤8589934592) (z14:s14.size≤8589934592) (z15:s15.size≤8589934592) (z16:s16.size≤8589934592) (z17:s17.size≤8589934592) (z18:s18.size≤8589934592) (z19:s19.size≤8589934592):∃b,Cc.o n0 s0 n1 s1 n2 s2 n3 s3 n4 s4 n5 s5 n6 s6 n7 s7 n8 s8 n9 s9 n10 s10 n11 s11 n12 s12 n13 s13 n14 s14 n15 s15 n16 s16 n17 s17 n18 s18 n19 s19=some b∧(b=true→∃x y z q:Q,(n0,s0,n1,s1,n2,s2,n3,s3,n4,s4)=C5 x∧(n5,s5,n6,s6,n7,s7,n8,s8,n9,s9)=C5 y∧(n10,s10,n11,s11,n12,s12,n13,s13,n14,s14)=C5 z∧(n15,s15,n16,s16,n17,s17,n18,s18,n19,s19)=C5 q∧x.ok=true∧y.ok=true∧z.ok=true∧q.ok=true∧x.Bd 2∧y.Bd 2∧z.Bd 2∧q.Bd 2∧(x.nul&&(y.nul&&z.nul))=false):=by
 obtain ⟨b0,e0,f0⟩:=Bp.spec (n0:=n0) (n1:=n1) (n2:=n2) (n3:=n3) (n4:=n4) z0 z1 z2 z3 z4
 obtain ⟨b1,e1,f1⟩:=Bp.spec (n0:=n5) (n1:=n6) (n2:=n7) (n3:=n8) (n4:=n9) z5 z6 z7 z8 z9
 obtain ⟨b2,e2,f2⟩:=Bp.spec (n0:=n10) (n1:=n11) (n2:=n12) (n3:=n13) (n4:=n14) z10 z11 z12 z13 z14
 obtain ⟨b3,e3,f3⟩:=Bp.spec (n0:=n15) (n1:=n16) (n2:=n17) (n3:=n18) (n4:=n19) z15 z16 z17 z18 z19
 have fp:∀ {b:Bool} {o:Option Bool},o=some b→o.isSome=true∧o.getD default=b:=fun h=>by rw [h]; exact ⟨rfl,rfl⟩
 have p0:Bp.pre n0 s0 n1 s1 n2 s2 n3 s3 n4 s4=true:=(fp e0).1
 have v0:Bp n0 s0 n1 s1 n2 s2 n3 s3 n4 s4=b0:=(fp e0).2
 have p1:Bp.pre n5 s5 n6 s6 n7 s7 n8 s8 n9 s9=true:=(fp e1).1
 have v1:Bp n5 s5 n6 s6 n7 s7 n8 s8 n9 s9=b1:=(fp e1).2
 have p2:Bp.pre n10 s10 n11 s11 n12 s12 n13 s13 n14 s14=true:=(fp e2).1
 have v2:Bp n10 s10 n11 s11 n12 s12 n13 s13 n14 s14=b2:=(fp e2).2
 have p3:Bp.pre n15 s15 n16 s16 n17 s17 n18 s18 n19 s19=true:=(fp e3).1
 have v3:Bp n15 s15 n16 s16 n17 s17 n18 s18 n19 s19=b3:=(fp e3).2
 simp only [Cc.o,Cc.K,p0,p1,p2,p3,v0,v1,v2,v3,cond_true]
 cases b0 with
 |false=>exact ⟨false,rfl,fun h=>by cases h⟩
 |true=>
 cases b1 with
 |false=>exact ⟨false,rfl,fun h=>by cases h⟩
 |true=>
 cases b2 with
 |false=>exact ⟨false,rfl,fun h=>by cases h⟩
 |true=>
 cases b3 with
 |false=>exact ⟨false,rfl,fun h=>by cases h⟩
 |true=>
 obtain ⟨x,ex,ox,_,x4,x0,x1,x2,x3⟩:=f0 rfl
 obtain ⟨y,ey,oy,_,y4,y0,y1,y2,y3⟩:=f1 rfl
 obtain ⟨z,ez,oz,_,v4',v0',v1',v2',v3'⟩:=f2 rfl
 obtain ⟨q,eq,oq,_,q4,q0,q1,q2,q3⟩:=f3 rfl
 simp only [C5,Prod.mk.injEq] at ex ey ez eq
 obtain ⟨rfl,rfl,rfl,rfl,rfl,rfl,rfl,rfl,rfl,rfl⟩:=ex
 obtain ⟨rfl,rfl,rfl,rfl,rfl,rfl,rfl,rfl,rfl,rfl⟩:=ey
 obtain ⟨rfl,rfl,rfl,rfl,rfl,rfl,rfl,rfl,rfl,rfl⟩:=ez
 obtain ⟨rfl,rfl,rfl,rfl,rfl,rfl,rfl,rfl,rfl,rfl⟩:=eq
 have lx:x.Le 400:=⟨x0,x1,x2,x3,x4⟩
 have ly:y.Le 400:=⟨y0,y1,y2,y3,y4⟩
 have lz:z.Le 400:=⟨v0',v1',v2',v3',v4'⟩
 have lq:q.Le 400:=⟨q0,q1,q2,q3,q4⟩
 have w:∀ {u:Q},u.Le 400→u.Le 16777215:=fun h=>h.mono (by decide)
 simp only [Bj.ps (w lx) (w ly) (w lz) (w lq) ox oy oz oq,Bj.es (w lx) (w ly) (w lz) (w lq) ox oy oz oq,cond_true]
 exact ⟨_,rfl,fun h=>⟨x,y,z,q,rfl,rfl,rfl,rfl,ox,oy,oz,oq,Qe lx (by decide),Qe ly (by decide),Qe lz (by decide),Qe lq (by decide),by revert h; cases x.nul<;>cases y.nul<;>cases z.nul<;>simp⟩⟩
theorem Cc.ok:SOK Tryz.prog 6 (Cc.sp Cc Cc.pre):=by
 refine Cq (E:=⟨[(19,Bp.sp Bp Bp.pre),(20,Bj.sp Bj Bj.pre)],[],[]⟩) (L:=[]) ⟨(Aa Bp.ok (Aa Bj.ok Ac)),Ai,Ad,Ah⟩ 60 Tryz.func6 (by decide) rfl Bs fun vs bl v bl' h=> ?_
 unfold Cc.sp at h
 split at h
 ·rename_i A2 A3 A8 A7 A6 A9 AB AA AD AC BI BH BG BF BE BD BC BB BA B9 B8 B7 B6 B5 B4 B3 B2 AZ AY AX CH CG CF CE CD CC CB CA C9 C8
  simp only [Option.some.injEq,Prod.mk.injEq] at h
  obtain ⟨hp,rfl,rfl⟩:=h
  have hr:=Cc.run Bp Bp.pre Bj Bj.pre A2 A3 A8 A7 A6 A9 AB AA AD AC BI BH BG BF BE BD BC BB BA B9 B8 B7 B6 B5 B4 B3 B2 AZ AY AX CH CG CF CE CD CC CB CA C9 C8
  rw [Cc.nat] at hr
  obtain ⟨r,h2⟩:=Option.isSome_iff_exists.1 (hp:(Cc.o A2 A3 A8 A7 A6 A9 AB AA AD AC BI BH BG BF BE BD BC BB BA B9 B8 B7 B6 B5 B4 B3 B2 AZ AY AX CH CG CF CE CD CC CB CA C9 C8).isSome=true)
  have h3:Cc A2 A3 A8 A7 A6 A9 AB AA AD AC BI BH BG BF BE BD BC BB BA B9 B8 B7 B6 B5 B4 B3 B2 AZ AY AX CH CG CF CE CD CC CB CA C9 C8=r:=by unfold Cc; rw [h2]; rfl
  have h4:Cc.K Bp Bp.pre Bj Bj.pre A2 A3 A8 A7 A6 A9 AB AA AD AC BI BH BG BF BE BD BC BB BA B9 B8 B7 B6 B5 B4 B3 B2 AZ AY AX CH CG CF CE CD CC CB CA C9 C8 some=some r:=h2
  rw [h4,Option.bind_some] at hr
  rw [h3]
  exact ⟨hr,by simp [okV,Nat.blt],clo_spec 8 _ (by kernel_rfl),As (by kernel_rfl)⟩
 ·cases h
end Go.Proofs.YtphlckkbihmlnaaGreatDoor.G
end
