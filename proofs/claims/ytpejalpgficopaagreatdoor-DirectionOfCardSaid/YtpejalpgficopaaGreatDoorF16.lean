/- A part of what the law's proof leans on. PACKED BY pack.py of this repo. -/
import Derived.Test.YtpejalpgficopaaGreatDoorF15
set_option linter.unusedVariables false
set_option linter.unusedSimpArgs false
set_option linter.unusedSectionVars false
set_option linter.defProp false
set_option maxRecDepth 100000
open Go.IntKind (i64 u64 u32)
section
namespace Go.Proofs.YtpejalpgficopaaGreatDoor.G
open Go Go.Proofs Go.RowKit RX
section
variable {R:Type} (s0_0:Int) (AC:Int) (AB:Int) (AM:Int) (AL:Int) (AQ:Int) (AP:Int)
def Bv.K (k:Int×Int×Int×Int×Int×Int×Int×Int→R):R:=
 bif s0_0 !=0 then k (0,0,0,0,0,0,s0_0,s0_0) else k (AC,AB,AM,AL,AQ,AP,0,s0_0)
theorem Bv.run:xfn Tryz.prog ⟨[],[],[]⟩ [] 40 Tryz.f64 [.pointer (some ⟨0,0,none⟩),.agg ⟨[.int .i64 AC,.int .i64 AB,.int .i64 AM,.int .i64 AL,.int .i64 AQ,.int .i64 AP]⟩] [.cs [.int .i64 s0_0] 98]=Bv.K s0_0 AC AB AM AL AQ AP (fun r=>some (.tuple ⟨[.agg ⟨[.int .i64 r.1,.int .i64 r.2.1,.int .i64 r.2.2.1,.int .i64 r.2.2.2.1,.int .i64 r.2.2.2.2.1,.int .i64 r.2.2.2.2.2.1]⟩,.int .i64 r.2.2.2.2.2.2.1]⟩,[.cs [.int .i64 r.2.2.2.2.2.2.2] 98])):=by kernel_rfl
def Bv:Int×Int×Int×Int×Int×Int×Int×Int:=Bv.K s0_0 AC AB AM AL AQ AP id
theorem Bv.nat (k:Int×Int×Int×Int×Int×Int×Int×Int→R):Bv.K s0_0 AC AB AM AL AQ AP k=k (Bv.K s0_0 AC AB AM AL AQ AP id):=by
 simp only [Bv.K,acond k,id_eq]
end
theorem Bv.ok:SOK Tryz.prog 64 (Bv.sp Bv):=by
 refine Dl (E:=⟨[],[],[]⟩) (L:=[]) ⟨Ac,Aq,Aj,Ap⟩ 40 Tryz.func64 (by decide) rfl Bf fun vs bl v bl' h=> ?_
 unfold Bv.sp at h
 split at h
 ·rename_i AC AB AM AL AQ AP s0_0
  simp only [zS,zP,true_and] at h
  obtain ⟨rfl,rfl⟩:=h
  refine ⟨?_,by simp [okV,Nat.blt],clo_spec 8 _ (by kernel_rfl),Bg (by kernel_rfl)⟩
  refine (Bv.run s0_0 AC AB AM AL AQ AP).trans ?_
  refine (Bv.nat s0_0 AC AB AM AL AQ AP _).trans ?_
  kernel_rfl
 ·cases h
section
variable {R:Type} (A7:Int) (AA:Int)
def Ah.K (k:(Bool)→R):R:=
 bif decide (A7≤AA) then bif decide (A7≥ -1073741824) then k (decide (AA≤1073741824)) else k (false) else k (false)
theorem Ah.run:xfn Tryz.prog ⟨[],[],[]⟩ [] 40 Tryz.f65 [.agg ⟨[.int .i64 A7,.int .i64 AA]⟩] []=Ah.K A7 AA (fun r=>some (.bool r,[])):=by kernel_rfl
def Ah:Bool:=Ah.K A7 AA id
theorem Ah.nat (k:(Bool)→R):Ah.K A7 AA k=k (Ah.K A7 AA id):=by
 simp only [Ah.K,acond k,id_eq]
theorem Ah.eq (a b:Int):Ah a b=V a b:=by
 simp only [Ah,Ah.K,id_eq,V]
 by_cases h1:a≤b<;>by_cases h2:a≥ -1073741824<;>by_cases h3:b≤1073741824<;>simp [h1,h2,h3]<;>omega
end
theorem Ah.ok:SOK Tryz.prog 65 (Ah.sp Ah):=by
 refine Dl (E:=⟨[],[],[]⟩) (L:=[]) ⟨Ac,Aq,Aj,Ap⟩ 40 Tryz.func65 (by decide) rfl Bf fun vs bl v bl' h=> ?_
 unfold Ah.sp at h
 split at h
 ·rename_i A7 AA
  simp only [zS,zP,true_and] at h
  obtain ⟨rfl,rfl⟩:=h
  refine ⟨?_,by simp [okV,Nat.blt],clo_spec 8 _ (by kernel_rfl),Bg (by kernel_rfl)⟩
  refine (Ah.run A7 AA).trans ?_
  refine (Ah.nat A7 AA _).trans ?_
  kernel_rfl
 ·cases h
section
variable {R:Type} (s0_0:Int) (AC:Int) (AB:Int) (a2:Int)
def Au.K (k:Int×Int×Int→R):R:=
 bif s0_0==0 then k (AC,AB,a2) else k (AC,AB,s0_0)
theorem Au.run:xfn Tryz.prog ⟨[],[],[]⟩ [] 40 Tryz.f62 [.pointer (some ⟨0,0,none⟩),.agg ⟨[.int .i64 AC,.int .i64 AB]⟩,.int .i64 a2] [.cs [.int .i64 s0_0] 98]=Au.K s0_0 AC AB a2 (fun r=>some (.agg ⟨[.int .i64 r.1,.int .i64 r.2.1]⟩,[.cs [.int .i64 r.2.2] 98])):=by kernel_rfl
def Au:Int×Int×Int:=Au.K s0_0 AC AB a2 id
theorem Au.nat (k:Int×Int×Int→R):Au.K s0_0 AC AB a2 k=k (Au.K s0_0 AC AB a2 id):=by
 simp only [Au.K,acond k,id_eq]
theorem Au.eq (s a b e:Int):Au s a b e=(a,b,kp s e):=by
 simp only [Au,Au.K,id_eq,kp]
 cases s==0<;>rfl
end
theorem Au.ok:SOK Tryz.prog 62 (Au.sp Au):=by
 refine Dl (E:=⟨[],[],[]⟩) (L:=[]) ⟨Ac,Aq,Aj,Ap⟩ 40 Tryz.func62 (by decide) rfl Bf fun vs bl v bl' h=> ?_
 unfold Au.sp at h
 split at h
 ·rename_i AC AB a2 s0_0
  simp only [zS,zP,true_and] at h
  obtain ⟨rfl,rfl⟩:=h
  refine ⟨?_,by simp [okV,Nat.blt],clo_spec 8 _ (by kernel_rfl),Bg (by kernel_rfl)⟩
  refine (Au.run s0_0 AC AB a2).trans ?_
  refine (Au.nat s0_0 AC AB a2 _).trans ?_
  kernel_rfl
 ·cases h
section
variable {R:Type} (a0:Int) (a1:Int)
def Bc.K (k:Int×Int×Int→R):R:=
 bif decide (a0< -1073741824) then k (0,0,3) else bif decide (a1>1073741824) then k (0,0,3) else k (a0,a1,0)
theorem Bc.run:xfn Tryz.prog ⟨[],[],[]⟩ [] 40 Tryz.f118 [.int .i64 a0,.int .i64 a1] []=Bc.K a0 a1 (fun r=>some (.tuple ⟨[.agg ⟨[.int .i64 r.1,.int .i64 r.2.1]⟩,.int .i64 r.2.2]⟩,[])):=by kernel_rfl
def Bc:Int×Int×Int:=Bc.K a0 a1 id
theorem Bc.nat (k:Int×Int×Int→R):Bc.K a0 a1 k=k (Bc.K a0 a1 id):=by
 simp only [Bc.K,acond k,id_eq]
theorem Bc.eq {a b:Int} (h:a≤b):Bc a b=chk a b:=by
 simp only [Bc,Bc.K,id_eq,chk]
 by_cases h1:a< -1073741824
 ·rw [V_not.2 (by omega)]; simp [h1]
 ·by_cases h2:b>1073741824
  ·rw [V_not.2 (by omega)]; simp [h1,h2]
  ·rw [G1.2 ⟨by omega,h,by omega⟩]; simp [h1,h2]
end
theorem Bc.ok:SOK Tryz.prog 118 (Bc.sp Bc):=by
 refine Dl (E:=⟨[],[],[]⟩) (L:=[]) ⟨Ac,Aq,Aj,Ap⟩ 40 Tryz.func118 (by decide) rfl Bf fun vs bl v bl' h=> ?_
 unfold Bc.sp at h
 split at h
 ·rename_i a0 a1
  simp only [zS,zP,true_and] at h
  obtain ⟨rfl,rfl⟩:=h
  refine ⟨?_,by simp [okV,Nat.blt],clo_spec 8 _ (by kernel_rfl),Bg (by kernel_rfl)⟩
  refine (Bc.run a0 a1).trans ?_
  refine (Bc.nat a0 a1 _).trans ?_
  kernel_rfl
 ·cases h
def As.K {R:Type} (a0:Int) (a1:Int) (k:(Int)→Option R):Option R:=
 bif a1 !=0 then bif a1 !=0 then bif a0.tmod a1 !=0 then bif decide (a0<0) then k (i64.wrap (i64.wrap (a0.tdiv a1)-1)) else k (i64.wrap (a0.tdiv a1)) else k (i64.wrap (a0.tdiv a1)) else none else none
theorem As.run (a0:Int) (a1:Int):xfn Tryz.prog ⟨[],[],[]⟩ [] 40 Tryz.f119 [.int .i64 a0,.int .i64 a1] []=As.K a0 a1 (fun r=>some (.int .i64 r,[])):=by kernel_rfl
def As.o (a0:Int) (a1:Int):Option (Int):=As.K a0 a1 some
def As (a0:Int) (a1:Int):Int:=(As.o a0 a1).getD default
theorem As.nat {R:Type} (a0:Int) (a1:Int) (k:(Int)→Option R):As.K a0 a1 k=(As.K a0 a1 some).bind k:=by
 simp only [As.K,bcond,Option.bind_some,Option.bind_none]
theorem As.eq {a b:Int} (hb:0<b) (h1: -4611686018427387904≤a) (h2:a≤4611686018427387904):As a b=a/b:=by
 have hb0:(b !=0)=true:=by simp; omega
 have hq:=Gs hb h1 h2
 simp only [As,As.o,As.K,hb0,cond_true]
 have hd:a.tdiv b=a/b+if 0≤a∨b∣a then 0 else b.sign:=Int.tdiv_eq_ediv
 rw [Int.sign_eq_one_of_pos hb] at hd
 by_cases hm:a.tmod b=0
 ·have hv:b∣a:=Int.dvd_of_tmod_eq_zero hm
  simp only [hv,or_true,if_true,Int.add_zero] at hd
  simp only [hm,bne_self_eq_false,cond_false,Option.getD_some,hd]
  exact w64 (by omega) (by omega)
 ·have hv:¬b∣a:=fun h=>hm (Int.tmod_eq_zero_of_dvd h)
  have hm':(a.tmod b !=0)=true:=by simp [hm]
  simp only [hm',cond_true]
  by_cases ha:a<0
  ·simp only [hv,or_false,show ¬0≤a from by omega,if_false] at hd
   simp only [ha,decide_true,cond_true,Option.getD_some,hd]
   rw [w64 (n:=a/b+1) (by omega) (by omega),Int.add_sub_cancel,w64 (by omega) (by omega)]
  ·simp only [show 0≤a from by omega,true_or,if_true,Int.add_zero] at hd
   simp only [ha,decide_false,cond_false,Option.getD_some,hd]
   exact w64 (by omega) (by omega)
theorem As.ok:SOK Tryz.prog 119 (As.sp As):=by
 refine Dl (E:=⟨[],[],[]⟩) (L:=[]) ⟨Ac,Aq,Aj,Ap⟩ 40 Tryz.func119 (by decide) rfl Bf fun vs bl v bl' h=> ?_
 unfold As.sp at h
 split at h
 ·rename_i a0 a1
  simp only [zS,zP] at h
  obtain ⟨hp,rfl,rfl⟩:=h
  have hr:=As.run a0 a1
  rw [As.nat] at hr
  obtain ⟨r,h2⟩:=Option.isSome_iff_exists.1 (by simp [As.o,As.K,Ge,Fx,hp]:(As.o a0 a1).isSome=true)
  have h3:As a0 a1=r:=by unfold As; rw [h2]; rfl
  have h4:As.K a0 a1 some=some r:=h2
  rw [h4,Option.bind_some] at hr
  rw [h3]
  exact ⟨hr,by simp [okV,Nat.blt],clo_spec 8 _ (by kernel_rfl),Bg (by kernel_rfl)⟩
 ·cases h
section
variable {R:Type} (BC:Int→Int→(Int)) (a0:Int) (a1:Int)
def Bb.K (k:(Int)→Option R):Option R:=
 bif a1 !=0 then
 let t0:=BC (i64.wrap (0-a0)) a1
 k (i64.wrap (0-t0)) else none
theorem Bb.run:xfn Tryz.prog ⟨[(119,As.sp BC)],[],[]⟩ [] 40 Tryz.f120 [.int .i64 a0,.int .i64 a1] []=Bb.K BC a0 a1 (fun r=>some (.int .i64 r,[])):=by kernel_rfl
def Bb.o:Option (Int):=Bb.K As a0 a1 some
def Bb:Int:=(Bb.o a0 a1).getD default
theorem Bb.nat (k:(Int)→Option R):Bb.K BC a0 a1 k=(Bb.K BC a0 a1 some).bind k:=by
 simp only [Bb.K,bcond,Option.bind_some,Option.bind_none]
theorem Bb.eq {a b:Int} (hb:0<b) (h1: -4611686018427387904≤a) (h2:a≤4611686018427387904):Bb a b=cl a b:=by
 have hb0:(b !=0)=true:=by simp; omega
 have hq:=Gs (a:= -a) hb (by omega) (by omega)
 simp only [Bb,Bb.o,Bb.K,hb0,cond_true,Option.getD_some,Int.zero_sub]
 rw [w64 (n:= -a) (by omega) (by omega),As.eq hb (by omega) (by omega),w64 (by omega) (by omega)]
 rfl
end
theorem Bb.ok:SOK Tryz.prog 120 (Bb.sp Bb):=by
 refine Dl (E:=⟨[(119,As.sp As)],[],[]⟩) (L:=[]) ⟨(Aa As.ok Ac),Aq,Aj,Ap⟩ 40 Tryz.func120 (by decide) rfl Bf fun vs bl v bl' h=> ?_
 unfold Bb.sp at h
 split at h
 ·rename_i a0 a1
  simp only [zS,zP] at h
  obtain ⟨hp,rfl,rfl⟩:=h
  have hr:=Bb.run As a0 a1
  rw [Bb.nat] at hr
  obtain ⟨r,h2⟩:=Option.isSome_iff_exists.1 (by simp [Bb.o,Bb.K,Ge,Fx,hp]:(Bb.o a0 a1).isSome=true)
  have h3:Bb a0 a1=r:=by unfold Bb; rw [h2]; rfl
  have h4:Bb.K As a0 a1 some=some r:=h2
  rw [h4,Option.bind_some] at hr
  rw [h3]
  exact ⟨hr,by simp [okV,Nat.blt],clo_spec 8 _ (by kernel_rfl),Bg (by kernel_rfl)⟩
 ·cases h
section
variable {R:Type} (AW:Int→Int→(Bool)) (BA:Int→Int→(Int×Int×Int)) (BC:Int→Int→(Int)) (BV:Int→Int→(Int)) (A7:Int) (AA:Int)
def Bn.K (k:Int×Int×Int→R):R:=
 let t0:=AW A7 AA
 bif !t0 then k (0,0,1) else bif decide (A7≤0) then bif decide (AA≥0) then
 let t1:=BC 0 16777216
 let t2:=BV (mx (mx (i64.wrap (A7*A7)) (i64.wrap (A7*A7))) (i64.wrap (AA*AA))) 16777216
 let t3:=BA t1 t2
 k (t3.1,t3.2.1,t3.2.2) else
 let t4:=BC (mn (mn (i64.wrap (A7*A7)) (i64.wrap (A7*A7))) (i64.wrap (AA*AA))) 16777216
 let t5:=BV (mx (mx (i64.wrap (A7*A7)) (i64.wrap (A7*A7))) (i64.wrap (AA*AA))) 16777216
 let t6:=BA t4 t5
 k (t6.1,t6.2.1,t6.2.2) else
 let t7:=BC (mn (mn (i64.wrap (A7*A7)) (i64.wrap (A7*A7))) (i64.wrap (AA*AA))) 16777216
 let t8:=BV (mx (mx (i64.wrap (A7*A7)) (i64.wrap (A7*A7))) (i64.wrap (AA*AA))) 16777216
 let t9:=BA t7 t8
 k (t9.1,t9.2.1,t9.2.2)
theorem Bn.run:xfn Tryz.prog ⟨[(65,Ah.sp AW),(117,EY.sp),(118,Bc.sp BA),(119,As.sp BC),(120,Bb.sp BV)],[],[]⟩ [] 40 Tryz.f67 [.agg ⟨[.int .i64 A7,.int .i64 AA]⟩] []=Bn.K AW BA BC BV A7 AA (fun r=>some (.tuple ⟨[.agg ⟨[.int .i64 r.1,.int .i64 r.2.1]⟩,.int .i64 r.2.2]⟩,[])):=by kernel_rfl
def Bn:Int×Int×Int:=Bn.K Ah Bc As Bb A7 AA id
theorem Bn.nat (k:Int×Int×Int→R):Bn.K AW BA BC BV A7 AA k=k (Bn.K AW BA BC BV A7 AA id):=by
 simp only [Bn.K,acond k,id_eq]
theorem Bn.eq (a b:Int):Bn a b=isq a b:=by
 simp only [Bn,Bn.K,id_eq,Ah.eq,isq]
 cases h1:V a b with
 |false=>simp
 | true=>
  have:=G1.1 h1
  have e1:=I7 (x:=a) (y:=a) (by omega) (by omega) (by omega) (by omega)
  have e4:=I7 (x:=b) (y:=b) (by omega) (by omega) (by omega) (by omega)
  have s1:=G3 a
  have s2:=G3 b
  have w1:i64.wrap (a*a)=a*a:=w64 (by omega) (by omega)
  have w4:i64.wrap (b*b)=b*b:=w64 (by omega) (by omega)
  have m1:min (min (a*a) (a*a)) (b*b)=min (a*a) (b*b):=by omega
  have m2:max (max (a*a) (a*a)) (b*b)=max (a*a) (b*b):=by omega
  simp only [w1,w4,mn_eq,mx_eq,zN,cond_false,cond_true,m1,m2]
  have r1:As (min (a*a) (b*b)) 16777216=min (a*a) (b*b)/16777216:=As.eq (by omega) (by omega) (by omega)
  have r2:Bb (max (a*a) (b*b)) 16777216=cl (max (a*a) (b*b)) 16777216:=Bb.eq (by omega) (by omega) (by omega)
  have r3:As 0 16777216=0/16777216:=As.eq (by omega) (by omega) (by omega)
  have hk:(0:Int)<16777216:=by omega
  rw [r1,r2,r3,Bc.eq (Jj hk (by omega)),Bc.eq (Jj hk (by omega))]
  by_cases h2:a≤0<;>by_cases h3:b≥0<;>simp [h2,h3]
end
theorem Bn.ok:SOK Tryz.prog 67 (Bn.sp Bn):=by
 refine Dl (E:=⟨[(65,Ah.sp Ah),(117,EY.sp),(118,Bc.sp Bc),(119,As.sp As),(120,Bb.sp Bb)],[],[]⟩) (L:=[]) ⟨(Aa Ah.ok (Aa EY.ok (Aa Bc.ok (Aa As.ok (Aa Bb.ok Ac))))),Aq,Aj,Ap⟩ 40 Tryz.func67 (by decide) rfl Bf fun vs bl v bl' h=> ?_
 unfold Bn.sp at h
 split at h
 ·rename_i A7 AA
  simp only [zS,zP,true_and] at h
  obtain ⟨rfl,rfl⟩:=h
  refine ⟨?_,by simp [okV,Nat.blt],clo_spec 8 _ (by kernel_rfl),Bg (by kernel_rfl)⟩
  refine (Bn.run Ah Bc As Bb A7 AA).trans ?_
  refine (Bn.nat Ah Bc As Bb A7 AA _).trans ?_
  kernel_rfl
 ·cases h
section
variable {R:Type} (AW:Int→Int→(Bool)) (BA:Int→Int→(Int×Int×Int)) (A7:Int) (AA:Int)
def Cs.K (k:Int×Int×Int→R):R:=
 let t0:=AW A7 AA
 bif !t0 then k (0,0,1) else bif decide (A7<0) then k (0,0,2) else bif decide (i64.wrap (root.rt 32 (i64.wrap (AA*16777216)) 0*root.rt 32 (i64.wrap (AA*16777216)) 0)<i64.wrap (AA*16777216)) then
 let t1:=BA (root.rt 32 (i64.wrap (A7*16777216)) 0) (i64.wrap (root.rt 32 (i64.wrap (AA*16777216)) 0+1))
 k (t1.1,t1.2.1,t1.2.2) else
 let t2:=BA (root.rt 32 (i64.wrap (A7*16777216)) 0) (root.rt 32 (i64.wrap (AA*16777216)) 0)
 k (t2.1,t2.2.1,t2.2.2)
theorem Cs.run:xfn Tryz.prog ⟨[(65,Ah.sp AW),(118,Bc.sp BA),(130,FV.sp)],[],[]⟩ [] 40 Tryz.f81 [.agg ⟨[.int .i64 A7,.int .i64 AA]⟩] []=Cs.K AW BA A7 AA (fun r=>some (.tuple ⟨[.agg ⟨[.int .i64 r.1,.int .i64 r.2.1]⟩,.int .i64 r.2.2]⟩,[])):=by kernel_rfl
def Cs:Int×Int×Int:=Cs.K Ah Bc A7 AA id
theorem Cs.nat (k:Int×Int×Int→R):Cs.K AW BA A7 AA k=k (Cs.K AW BA A7 AA id):=by
 simp only [Cs.K,acond k,id_eq]
end
theorem Kn:∀(k:Nat) (n r:Int),0≤n→n≤18014398509481984→0≤r→r+((2^k:Nat):Int)≤4294967296→root.rt k n r=rts k n r
 |0,n,r,_,_,_,_=>rfl
 | k +1,n,r,h0,h1,h2,h3=>by
  have e:((2^(k+1):Nat):Int)=((2^k:Nat):Int)+((2^k:Nat):Int):=by rw [Nat.pow_succ]; omega
  have e2:(2:Int)^k=((2^k:Nat):Int):=(Int.natCast_pow 2 k).symm
  have hp:0<((2^k:Nat):Int):=by have:=Nat.two_pow_pos k; omega
  rw [e] at h3
  have hq:=Gs (a:=n) (b:=r+((2^k:Nat):Int)) (by omega) (by omega) (by omega)
  simp only [root.rt,rts,HR,e2]
  rw [w64 (n:=r+((2^k:Nat):Int)) (by omega) (by omega),Int.tdiv_eq_ediv_of_nonneg h0,w64 (by omega) (by omega)]
  have hi:r+((2^k:Nat):Int)≤n/(r+((2^k:Nat):Int))↔(r+((2^k:Nat):Int))*(r+((2^k:Nat):Int))≤n:=le_fl (by omega)
  by_cases hc:(r+((2^k:Nat):Int))*(r+((2^k:Nat):Int))≤n
  ·rw [if_pos hc,if_pos (hi.2 hc)]
   exact Kn k n _ h0 h1 (by omega) (by omega)
  ·rw [if_neg hc,if_neg (fun h=>hc (hi.1 h))]
   exact Kn k n _ h0 h1 h2 (by omega)
theorem N4 {n:Int} (h0:0≤n) (h:n≤18014398509481984):root.rt 32 n 0=sqt n:=Kn 32 n 0 h0 h (by omega) (by decide)
theorem Cs.eq (a b:Int):Cs a b=isr a b:=by
 simp only [Cs,Cs.K,id_eq,Ah.eq,isr]
 cases hv:V a b with
 |false=>rfl
 | true=>
  have:=G1.1 hv
  by_cases ha:a<0
  ·simp only [ha,decide_true,zN,cond_false,cond_true,if_true]
  ·have w1:i64.wrap (a*16777216)=a*16777216:=w64 (by omega) (by omega)
   have w2:i64.wrap (b*16777216)=b*16777216:=w64 (by omega) (by omega)
   have r1:=N4 (n:=a*16777216) (by omega) (by omega)
   have r2:=N4 (n:=b*16777216) (by omega) (by omega)
   have s2:=Gu (n:=b*16777216) (by omega) (by omega)
   have g:=M0 (a:=a) (b:=b) (by omega) (by omega) (by omega)
   have g2:=(Is (n:=b*16777216) (by omega) (by omega)).2.2.2
   simp only [ha,decide_false,zN,cond_false,cond_true,if_false,w1,w2,r1,r2]
   have g3:=G3 (sqt (b*16777216))
   rw [w64 (n:=sqt (b*16777216)*sqt (b*16777216)) (by omega) (by omega)]
   by_cases hc:sqt (b*16777216)*sqt (b*16777216)<b*16777216
   ·have e:sqc (b*16777216)=sqt (b*16777216)+1:=by rw [sqc,if_pos hc]
    simp only [hc,decide_true,cond_true]
    rw [w64 (by omega) (by omega),←e,Bc.eq (by omega),Mj (by omega) (by omega) (by omega)]
   ·have e:sqc (b*16777216)=sqt (b*16777216):=by rw [sqc,if_neg hc]
    simp only [hc,decide_false,cond_false]
    rw [←e,Bc.eq (by omega),Mj (by omega) (by omega) (by omega)]
theorem Cs.ok:SOK Tryz.prog 81 (Cs.sp Cs):=by
 refine Dl (E:=⟨[(65,Ah.sp Ah),(118,Bc.sp Bc),(130,FV.sp)],[],[]⟩) (L:=[]) ⟨(Aa Ah.ok (Aa Bc.ok (Aa FV.ok Ac))),Aq,Aj,Ap⟩ 40 Tryz.func81 (by decide) rfl Bf fun vs bl v bl' h=> ?_
 unfold Cs.sp at h
 split at h
 ·rename_i A7 AA
  simp only [zS,zP,true_and] at h
  obtain ⟨rfl,rfl⟩:=h
  refine ⟨?_,by simp [okV,Nat.blt],clo_spec 8 _ (by kernel_rfl),Bg (by kernel_rfl)⟩
  refine (Cs.run Ah Bc A7 AA).trans ?_
  refine (Cs.nat Ah Bc A7 AA _).trans ?_
  kernel_rfl
 ·cases h
section
variable {R:Type} (B6:Int→Int→Int→Int→(Int×Int×Int)) (BH:Int→Int→(Int×Int×Int)) (C1:Int→Int→(Int×Int×Int)) (s0_0:Int) (AV:Int) (AU:Int)
def Ar.K {R:Type} (B6:Int→Int→Int→Int→(Int×Int×Int)) (BH:Int→Int→(Int×Int×Int)) (C1:Int→Int→(Int×Int×Int)) (s0_0:Int) (AV:Int) (AU:Int) (k:Int×Int×Int→R):R:=
 bif s0_0 !=0 then k (AV,AU,s0_0) else
 let t0:=BH AV AU
 let t1:=B6 s0_0 t0.1 t0.2.1 t0.2.2
 k (t1.1,t1.2.1,t1.2.2)
theorem Ar.run:xfn Tryz.prog ⟨[(62,Au.sp B6),(67,Bn.sp BH),(81,Cs.sp C1)],[],[]⟩ [] 40 Tryz.f66 [.pointer (some ⟨0,0,none⟩),.func (.func 67) ⟨[]⟩ ⟨[]⟩,.agg ⟨[.int .i64 AV,.int .i64 AU]⟩] [.cs [.int .i64 s0_0] 98]=Ar.K B6 BH C1 s0_0 AV AU (fun r=>some (.agg ⟨[.int .i64 r.1,.int .i64 r.2.1]⟩,[.cs [.int .i64 r.2.2] 98])):=by kernel_rfl
def Ar:Int×Int×Int:=Ar.K Au Bn Cs s0_0 AV AU id
theorem Ar.nat (k:Int×Int×Int→R):Ar.K B6 BH C1 s0_0 AV AU k=k (Ar.K B6 BH C1 s0_0 AV AU id):=by
 simp only [Ar.K,acond k,id_eq]
theorem Ar.eq (s a b:Int):Ar s a b=st s a b (isq a b):=by
 simp only [Ar,Ar.K,id_eq,Bn.eq,Au.eq,st]
 by_cases hs:s=0
 ·subst hs; rfl
 ·simp only [E8 hs,cond_true]
end
section
variable {R:Type} (B6:Int→Int→Int→Int→(Int×Int×Int)) (BH:Int→Int→(Int×Int×Int)) (C1:Int→Int→(Int×Int×Int)) (s0_0:Int) (AV:Int) (AU:Int)
def At.K {R:Type} (B6:Int→Int→Int→Int→(Int×Int×Int)) (BH:Int→Int→(Int×Int×Int)) (C1:Int→Int→(Int×Int×Int)) (s0_0:Int) (AV:Int) (AU:Int) (k:Int×Int×Int→R):R:=
 bif s0_0 !=0 then k (AV,AU,s0_0) else
 let t0:=C1 AV AU
 let t1:=B6 s0_0 t0.1 t0.2.1 t0.2.2
 k (t1.1,t1.2.1,t1.2.2)
theorem At.run:xfn Tryz.prog ⟨[(62,Au.sp B6),(67,Bn.sp BH),(81,Cs.sp C1)],[],[]⟩ [] 40 Tryz.f66 [.pointer (some ⟨0,0,none⟩),.func (.func 81) ⟨[]⟩ ⟨[]⟩,.agg ⟨[.int .i64 AV,.int .i64 AU]⟩] [.cs [.int .i64 s0_0] 98]=At.K B6 BH C1 s0_0 AV AU (fun r=>some (.agg ⟨[.int .i64 r.1,.int .i64 r.2.1]⟩,[.cs [.int .i64 r.2.2] 98])):=by kernel_rfl
def At:Int×Int×Int:=At.K Au Bn Cs s0_0 AV AU id
theorem At.nat (k:Int×Int×Int→R):At.K B6 BH C1 s0_0 AV AU k=k (At.K B6 BH C1 s0_0 AV AU id):=by
 simp only [At.K,acond k,id_eq]
theorem At.eq (s a b:Int):At s a b=st s a b (isr a b):=by
 simp only [At,At.K,id_eq,Cs.eq,Au.eq,st]
 by_cases hs:s=0
 ·subst hs; rfl
 ·simp only [E8 hs,cond_true]
end
theorem EH.ok:SOK Tryz.prog 66 (EH.sp Ar At):=by
 refine Dl (E:=⟨[(62,Au.sp Au),(67,Bn.sp Bn),(81,Cs.sp Cs)],[],[]⟩) (L:=[]) ⟨(Aa Au.ok (Aa Bn.ok (Aa Cs.ok Ac))),Aq,Aj,Ap⟩ 40 Tryz.func66 (by decide) rfl Bf fun vs bl v bl' h=> ?_
 unfold EH.sp at h
 split at h
 ·rename_i AV AU s0_0
  simp only [zS,zP,true_and] at h
  obtain ⟨rfl,rfl⟩:=h
  refine ⟨?_,by simp [okV,Nat.blt],clo_spec 8 _ (by kernel_rfl),Bg (by kernel_rfl)⟩
  refine (Ar.run Au Bn Cs s0_0 AV AU).trans ?_
  refine (Ar.nat Au Bn Cs s0_0 AV AU _).trans ?_
  kernel_rfl
 ·rename_i AV AU s0_0
  simp only [zS,zP,true_and] at h
  obtain ⟨rfl,rfl⟩:=h
  refine ⟨?_,by simp [okV,Nat.blt],clo_spec 8 _ (by kernel_rfl),Bg (by kernel_rfl)⟩
  refine (At.run Au Bn Cs s0_0 AV AU).trans ?_
  refine (At.nat Au Bn Cs s0_0 AV AU _).trans ?_
  kernel_rfl
 ·cases h
section
variable {R:Type} (BA:Int→Int→(Int×Int×Int)) (AW:Int→Int→(Bool)) (A7:Int) (AA:Int) (AC:Int) (AB:Int)
def Cr.K (k:Int×Int×Int→R):R:=
 let t0:=AW A7 AA
 bif !t0 then k (0,0,1) else
 let t1:=AW AC AB
 bif !t1 then k (0,0,1) else
 let t2:=BA (i64.wrap (A7+AC)) (i64.wrap (AA+AB))
 k (t2.1,t2.2.1,t2.2.2)
theorem Cr.run:xfn Tryz.prog ⟨[(118,Bc.sp BA),(65,Ah.sp AW)],[(129,Tryz.f129)],[]⟩ [] 40 Tryz.f122 [.agg ⟨[.int .i64 A7,.int .i64 AA]⟩,.agg ⟨[.int .i64 AC,.int .i64 AB]⟩] []=Cr.K BA AW A7 AA AC AB (fun r=>some (.tuple ⟨[.agg ⟨[.int .i64 r.1,.int .i64 r.2.1]⟩,.int .i64 r.2.2]⟩,[])):=by kernel_rfl
def Cr:Int×Int×Int:=Cr.K Bc Ah A7 AA AC AB id
theorem Cr.nat (k:Int×Int×Int→R):Cr.K BA AW A7 AA AC AB k=k (Cr.K BA AW A7 AA AC AB id):=by
 simp only [Cr.K,acond k,id_eq]
theorem Cr.eq (a b c d:Int):Cr a b c d=iadd a b c d:=by
 simp only [Cr,Cr.K,id_eq,Ah.eq,iadd]
 cases h1:V a b with
 |false=>simp
 | true=>cases h2:V c d with
  |false=>simp
  | true=>
   have:=G1.1 h1
   have:=G1.1 h2
   rw [w64 (by omega) (by omega),w64 (by omega) (by omega),Bc.eq (by omega)]
   simp
end
theorem Cr.ok:SOK Tryz.prog 122 (Cr.sp Cr):=by
 refine Dl (E:=⟨[(118,Bc.sp Bc),(65,Ah.sp Ah)],[(129,Tryz.f129)],[]⟩) (L:=[]) ⟨(Aa Bc.ok (Aa Ah.ok Ac)),(Bu ⟨Tryz.func129,by decide,rfl⟩ Aq),Aj,Ap⟩ 40 Tryz.func122 (by decide) rfl Bf fun vs bl v bl' h=> ?_
 unfold Cr.sp at h
 split at h
 ·rename_i A7 AA AC AB
  simp only [zS,zP,true_and] at h
  obtain ⟨rfl,rfl⟩:=h
  refine ⟨?_,by simp [okV,Nat.blt],clo_spec 8 _ (by kernel_rfl),Bg (by kernel_rfl)⟩
  refine (Cr.run Bc Ah A7 AA AC AB).trans ?_
  refine (Cr.nat Bc Ah A7 AA AC AB _).trans ?_
  kernel_rfl
 ·cases h
section
variable {R:Type} (BA:Int→Int→(Int×Int×Int)) (BC:Int→Int→(Int)) (BV:Int→Int→(Int)) (AW:Int→Int→(Bool)) (A7:Int) (AA:Int) (AC:Int) (AB:Int)
def Bt.K (k:Int×Int×Int→Option R):Option R:=
 let t0:=AW A7 AA
 bif !t0 then k (0,0,1) else
 let t1:=AW AC AB
 bif !t1 then k (0,0,1) else bif decide (AC≤0) then bif decide (AB≥0) then k (0,0,10) else bif decide (AB<0) then bif i64.wrap (0-AB) !=0 then bif i64.wrap (0-AC) !=0 then bif i64.wrap (0-AB) !=0 then bif i64.wrap (0-AC) !=0 then
 let t2:=BC (i64.wrap (i64.wrap (0-AA)*16777216)) (i64.wrap (0-AB))
 let t3:=BC (i64.wrap (i64.wrap (0-AA)*16777216)) (i64.wrap (0-AC))
 let t4:=BV (i64.wrap (i64.wrap (0-A7)*16777216)) (i64.wrap (0-AB))
 let t5:=BV (i64.wrap (i64.wrap (0-A7)*16777216)) (i64.wrap (0-AC))
 let t6:=BA (mn (mn t2 t2) t3) (mx (mx t4 t4) t5)
 k (t6.1,t6.2.1,t6.2.2) else none else none else none else none else bif AC !=0 then bif AB !=0 then bif AC !=0 then bif AB !=0 then
 let t7:=BC (i64.wrap (A7*16777216)) AC
 let t8:=BC (i64.wrap (A7*16777216)) AB
 let t9:=BV (i64.wrap (AA*16777216)) AC
 let t10:=BV (i64.wrap (AA*16777216)) AB
 let t11:=BA (mn (mn t7 t7) t8) (mx (mx t9 t9) t10)
 k (t11.1,t11.2.1,t11.2.2) else none else none else none else none else bif decide (AB<0) then bif i64.wrap (0-AB) !=0 then bif i64.wrap (0-AC) !=0 then bif i64.wrap (0-AB) !=0 then bif i64.wrap (0-AC) !=0 then
 let t12:=BC (i64.wrap (i64.wrap (0-AA)*16777216)) (i64.wrap (0-AB))
 let t13:=BC (i64.wrap (i64.wrap (0-AA)*16777216)) (i64.wrap (0-AC))
 let t14:=BV (i64.wrap (i64.wrap (0-A7)*16777216)) (i64.wrap (0-AB))
 let t15:=BV (i64.wrap (i64.wrap (0-A7)*16777216)) (i64.wrap (0-AC))
 let t16:=BA (mn (mn t12 t12) t13) (mx (mx t14 t14) t15)
 k (t16.1,t16.2.1,t16.2.2) else none else none else none else none else bif AC !=0 then bif AB !=0 then bif AC !=0 then bif AB !=0 then
 let t17:=BC (i64.wrap (A7*16777216)) AC
 let t18:=BC (i64.wrap (A7*16777216)) AB
 let t19:=BV (i64.wrap (AA*16777216)) AC
 let t20:=BV (i64.wrap (AA*16777216)) AB
 let t21:=BA (mn (mn t17 t17) t18) (mx (mx t19 t19) t20)
 k (t21.1,t21.2.1,t21.2.2) else none else none else none else none
theorem Bt.run:xfn Tryz.prog ⟨[(117,EY.sp),(118,Bc.sp BA),(119,As.sp BC),(120,Bb.sp BV),(65,Ah.sp AW)],[(129,Tryz.f129)],[]⟩ [] 40 Tryz.f123 [.agg ⟨[.int .i64 A7,.int .i64 AA]⟩,.agg ⟨[.int .i64 AC,.int .i64 AB]⟩] []=Bt.K BA BC BV AW A7 AA AC AB (fun r=>some (.tuple ⟨[.agg ⟨[.int .i64 r.1,.int .i64 r.2.1]⟩,.int .i64 r.2.2]⟩,[])):=by kernel_rfl
def Bt.o:Option (Int×Int×Int):=Bt.K Bc As Bb Ah A7 AA AC AB some
def Bt:Int×Int×Int:=(Bt.o A7 AA AC AB).getD default
theorem Bt.nat (k:Int×Int×Int→Option R):Bt.K BA BC BV AW A7 AA AC AB k=(Bt.K BA BC BV AW A7 AA AC AB some).bind k:=by
 simp only [Bt.K,bcond,Option.bind_some,Option.bind_none]
end
theorem Bt.o_eq (a b c d:Int):Bt.o a b c d=some (idiv a b c d):=by
  simp only [Bt.o,Bt.K,Ah.eq,idiv]
  cases h1:V a b with
  |false=>simp
  | true=>cases h2:V c d with
    |false=>simp
    | true=>
      have:=G1.1 h1
      have:=G1.1 h2
      have w1:i64.wrap (0-a)= -a:=by rw [Int.zero_sub]; exact w64 (by omega) (by omega)
      have w2:i64.wrap (0-b)= -b:=by rw [Int.zero_sub]; exact w64 (by omega) (by omega)
      have w3:i64.wrap (0-c)= -c:=by rw [Int.zero_sub]; exact w64 (by omega) (by omega)
      have w4:i64.wrap (0-d)= -d:=by rw [Int.zero_sub]; exact w64 (by omega) (by omega)
      have w5:i64.wrap (a*16777216)=a*16777216:=w64 (by omega) (by omega)
      have w6:i64.wrap (b*16777216)=b*16777216:=w64 (by omega) (by omega)
      have w7:i64.wrap (-a*16777216)= -a*16777216:=w64 (by omega) (by omega)
      have w8:i64.wrap (-b*16777216)= -b*16777216:=w64 (by omega) (by omega)
      simp only [w1,w2,w3,w4,w5,w6,w7,w8,mn_eq,mx_eq,zN,cond_false,cond_true,Bool.and_self]
      have pos:∀x y u v:Int,-1073741824≤x→x≤y→y≤1073741824→0<u→u≤v→v≤1073741824→Bc (min (min (As (x*16777216) u) (As (x*16777216) u)) (As (x*16777216) v)) (max (max (Bb (y*16777216) u) (Bb (y*16777216) u)) (Bb (y*16777216) v))=pdiv x y u v:=fun x y u v hx hxy hy hu huv hv=>by
        have hv0:0<v:=by omega
        have f1:As (x*16777216) u=x*16777216/u:=As.eq hu (by omega) (by omega)
        have f2:As (x*16777216) v=x*16777216/v:=As.eq hv0 (by omega) (by omega)
        have f3:Bb (y*16777216) u=cl (y*16777216) u:=Bb.eq hu (by omega) (by omega)
        have f4:Bb (y*16777216) v=cl (y*16777216) v:=Bb.eq hv0 (by omega) (by omega)
        rw [f1,f2,f3,f4,Int.min_self,Int.max_self]
        have:=Jj (x:=x*16777216) (y:=y*16777216) hu (by omega)
        exact Bc.eq (by omega)
      by_cases h3:c≤0
      · by_cases h4:d≥0
        · simp [h3,h4]
        · have h5:d<0:=by omega
          have n1:((-d) !=0)=true:=by simp; omega
          have n2:((-c) !=0)=true:=by simp; omega
          have n3:¬(c≤0∧0≤d):=by omega
          rw [if_neg n3,if_pos h5]
          simp only [h3,h4,h5,n1,n2,decide_true,decide_false,cond_true,cond_false,pos (-b) (-a) (-d) (-c) (by omega) (by omega) (by omega) (by omega) (by omega) (by omega)]
      · have h5:¬d<0:=by omega
        have n1:(c !=0)=true:=by simp; omega
        have n2:(d !=0)=true:=by simp; omega
        have n3:¬(c≤0∧0≤d):=by omega
        rw [if_neg n3,if_neg h5]
        simp only [h3,h5,n1,n2,decide_true,decide_false,cond_true,cond_false,pos a b c d (by omega) (by omega) (by omega) (by omega) (by omega) (by omega)]
theorem Bt.total (a b c d:Int):(Bt.o a b c d).isSome=true:=by rw [Bt.o_eq]; rfl
theorem Bt.eq (a b c d:Int):Bt a b c d=idiv a b c d:=by rw [Bt,Bt.o_eq]; rfl
theorem Bt.ok:SOK Tryz.prog 123 (Bt.sp Bt):=by
 refine Dl (E:=⟨[(117,EY.sp),(118,Bc.sp Bc),(119,As.sp As),(120,Bb.sp Bb),(65,Ah.sp Ah)],[(129,Tryz.f129)],[]⟩) (L:=[]) ⟨(Aa EY.ok (Aa Bc.ok (Aa As.ok (Aa Bb.ok (Aa Ah.ok Ac))))),(Bu ⟨Tryz.func129,by decide,rfl⟩ Aq),Aj,Ap⟩ 40 Tryz.func123 (by decide) rfl Bf fun vs bl v bl' h=> ?_
 unfold Bt.sp at h
 split at h
 ·rename_i A7 AA AC AB
  simp only [zS,zP] at h
  obtain ⟨hp,rfl,rfl⟩:=h
  have hr:=Bt.run Bc As Bb Ah A7 AA AC AB
  rw [Bt.nat] at hr
  obtain ⟨r,h2⟩:=Option.isSome_iff_exists.1 (Bt.total A7 AA AC AB:(Bt.o A7 AA AC AB).isSome=true)
  have h3:Bt A7 AA AC AB=r:=by unfold Bt; rw [h2]; rfl
  have h4:Bt.K Bc As Bb Ah A7 AA AC AB some=some r:=h2
  rw [h4,Option.bind_some] at hr
  rw [h3]
  exact ⟨hr,by simp [okV,Nat.blt],clo_spec 8 _ (by kernel_rfl),Bg (by kernel_rfl)⟩
 ·cases h
section
variable {R:Type} (BA:Int→Int→(Int×Int×Int)) (AW:Int→Int→(Bool)) (A7:Int) (AA:Int) (AC:Int) (AB:Int)
def Cq.K (k:Int×Int×Int→R):R:=
 let t0:=AW A7 AA
 bif !t0 then k (0,0,1) else
 let t1:=AW AC AB
 bif !t1 then k (0,0,1) else
 let t2:=BA (i64.wrap (A7-AB)) (i64.wrap (AA-AC))
 k (t2.1,t2.2.1,t2.2.2)
theorem Cq.run:xfn Tryz.prog ⟨[(118,Bc.sp BA),(65,Ah.sp AW)],[(129,Tryz.f129)],[]⟩ [] 40 Tryz.f124 [.agg ⟨[.int .i64 A7,.int .i64 AA]⟩,.agg ⟨[.int .i64 AC,.int .i64 AB]⟩] []=Cq.K BA AW A7 AA AC AB (fun r=>some (.tuple ⟨[.agg ⟨[.int .i64 r.1,.int .i64 r.2.1]⟩,.int .i64 r.2.2]⟩,[])):=by kernel_rfl
def Cq:Int×Int×Int:=Cq.K Bc Ah A7 AA AC AB id
theorem Cq.nat (k:Int×Int×Int→R):Cq.K BA AW A7 AA AC AB k=k (Cq.K BA AW A7 AA AC AB id):=by
 simp only [Cq.K,acond k,id_eq]
theorem Cq.eq (a b c d:Int):Cq a b c d=isub a b c d:=by
 simp only [Cq,Cq.K,id_eq,Ah.eq,isub]
 cases h1:V a b with
 |false=>simp
 | true=>cases h2:V c d with
  |false=>simp
  | true=>
   have:=G1.1 h1
   have:=G1.1 h2
   rw [w64 (by omega) (by omega),w64 (by omega) (by omega),Bc.eq (by omega)]
   simp
end
theorem Cq.ok:SOK Tryz.prog 124 (Cq.sp Cq):=by
 refine Dl (E:=⟨[(118,Bc.sp Bc),(65,Ah.sp Ah)],[(129,Tryz.f129)],[]⟩) (L:=[]) ⟨(Aa Bc.ok (Aa Ah.ok Ac)),(Bu ⟨Tryz.func129,by decide,rfl⟩ Aq),Aj,Ap⟩ 40 Tryz.func124 (by decide) rfl Bf fun vs bl v bl' h=> ?_
 unfold Cq.sp at h
 split at h
 ·rename_i A7 AA AC AB
  simp only [zS,zP,true_and] at h
  obtain ⟨rfl,rfl⟩:=h
  refine ⟨?_,by simp [okV,Nat.blt],clo_spec 8 _ (by kernel_rfl),Bg (by kernel_rfl)⟩
  refine (Cq.run Bc Ah A7 AA AC AB).trans ?_
  refine (Cq.nat Bc Ah A7 AA AC AB _).trans ?_
  kernel_rfl
 ·cases h
section
variable {R:Type} (B6:Int→Int→Int→Int→(Int×Int×Int)) (BQ:Int→Int→Int→Int→(Int×Int×Int)) (BP:Int→Int→Int→Int→(Int×Int×Int)) (BO:Int→Int→Int→Int→(Int×Int×Int)) (s0_0:Int) (AV:Int) (AU:Int) (CM:Int) (CL:Int)
def Ax.K {R:Type} (B6:Int→Int→Int→Int→(Int×Int×Int)) (BQ:Int→Int→Int→Int→(Int×Int×Int)) (BP:Int→Int→Int→Int→(Int×Int×Int)) (BO:Int→Int→Int→Int→(Int×Int×Int)) (s0_0:Int) (AV:Int) (AU:Int) (CM:Int) (CL:Int) (k:Int×Int×Int→R):R:=
 bif s0_0 !=0 then k (AV,AU,s0_0) else
 let t0:=BQ AV AU CM CL
 let t1:=B6 s0_0 t0.1 t0.2.1 t0.2.2
 k (t1.1,t1.2.1,t1.2.2)
theorem Ax.run:xfn Tryz.prog ⟨[(62,Au.sp B6),(122,Cr.sp BQ),(123,Bt.sp BP),(124,Cq.sp BO)],[],[]⟩ [] 40 Tryz.f121 [.pointer (some ⟨0,0,none⟩),.func (.func 122) ⟨[]⟩ ⟨[]⟩,.agg ⟨[.int .i64 AV,.int .i64 AU]⟩,.agg ⟨[.int .i64 CM,.int .i64 CL]⟩] [.cs [.int .i64 s0_0] 98]=Ax.K B6 BQ BP BO s0_0 AV AU CM CL (fun r=>some (.agg ⟨[.int .i64 r.1,.int .i64 r.2.1]⟩,[.cs [.int .i64 r.2.2] 98])):=by kernel_rfl
def Ax:Int×Int×Int:=Ax.K Au Cr Bt Cq s0_0 AV AU CM CL id
theorem Ax.nat (k:Int×Int×Int→R):Ax.K B6 BQ BP BO s0_0 AV AU CM CL k=k (Ax.K B6 BQ BP BO s0_0 AV AU CM CL id):=by
 simp only [Ax.K,acond k,id_eq]
theorem Ax.eq (s a b c d:Int):Ax s a b c d=st s a b (iadd a b c d):=by
 simp only [Ax,Ax.K,id_eq,Cr.eq,Au.eq,st]
 by_cases hs:s=0
 ·subst hs; rfl
 ·simp only [E8 hs,cond_true]
end
section
variable {R:Type} (B6:Int→Int→Int→Int→(Int×Int×Int)) (BQ:Int→Int→Int→Int→(Int×Int×Int)) (BP:Int→Int→Int→Int→(Int×Int×Int)) (BO:Int→Int→Int→Int→(Int×Int×Int)) (s0_0:Int) (AV:Int) (AU:Int) (CM:Int) (CL:Int)
def Av.K {R:Type} (B6:Int→Int→Int→Int→(Int×Int×Int)) (BQ:Int→Int→Int→Int→(Int×Int×Int)) (BP:Int→Int→Int→Int→(Int×Int×Int)) (BO:Int→Int→Int→Int→(Int×Int×Int)) (s0_0:Int) (AV:Int) (AU:Int) (CM:Int) (CL:Int) (k:Int×Int×Int→R):R:=
 bif s0_0 !=0 then k (AV,AU,s0_0) else
 let t0:=BO AV AU CM CL
 let t1:=B6 s0_0 t0.1 t0.2.1 t0.2.2
 k (t1.1,t1.2.1,t1.2.2)
theorem Av.run:xfn Tryz.prog ⟨[(62,Au.sp B6),(122,Cr.sp BQ),(123,Bt.sp BP),(124,Cq.sp BO)],[],[]⟩ [] 40 Tryz.f121 [.pointer (some ⟨0,0,none⟩),.func (.func 124) ⟨[]⟩ ⟨[]⟩,.agg ⟨[.int .i64 AV,.int .i64 AU]⟩,.agg ⟨[.int .i64 CM,.int .i64 CL]⟩] [.cs [.int .i64 s0_0] 98]=Av.K B6 BQ BP BO s0_0 AV AU CM CL (fun r=>some (.agg ⟨[.int .i64 r.1,.int .i64 r.2.1]⟩,[.cs [.int .i64 r.2.2] 98])):=by kernel_rfl
def Av:Int×Int×Int:=Av.K Au Cr Bt Cq s0_0 AV AU CM CL id
theorem Av.nat (k:Int×Int×Int→R):Av.K B6 BQ BP BO s0_0 AV AU CM CL k=k (Av.K B6 BQ BP BO s0_0 AV AU CM CL id):=by
 simp only [Av.K,acond k,id_eq]
theorem Av.eq (s a b c d:Int):Av s a b c d=st s a b (isub a b c d):=by
 simp only [Av,Av.K,id_eq,Cq.eq,Au.eq,st]
 by_cases hs:s=0
 ·subst hs; rfl
 ·simp only [E8 hs,cond_true]
end
section
variable {R:Type} (B6:Int→Int→Int→Int→(Int×Int×Int)) (BQ:Int→Int→Int→Int→(Int×Int×Int)) (BP:Int→Int→Int→Int→(Int×Int×Int)) (BO:Int→Int→Int→Int→(Int×Int×Int)) (s0_0:Int) (AV:Int) (AU:Int) (CM:Int) (CL:Int)
def Aw.K {R:Type} (B6:Int→Int→Int→Int→(Int×Int×Int)) (BQ:Int→Int→Int→Int→(Int×Int×Int)) (BP:Int→Int→Int→Int→(Int×Int×Int)) (BO:Int→Int→Int→Int→(Int×Int×Int)) (s0_0:Int) (AV:Int) (AU:Int) (CM:Int) (CL:Int) (k:Int×Int×Int→R):R:=
 bif s0_0 !=0 then k (AV,AU,s0_0) else
 let t0:=BP AV AU CM CL
 let t1:=B6 s0_0 t0.1 t0.2.1 t0.2.2
 k (t1.1,t1.2.1,t1.2.2)
theorem Aw.run:xfn Tryz.prog ⟨[(62,Au.sp B6),(122,Cr.sp BQ),(123,Bt.sp BP),(124,Cq.sp BO)],[],[]⟩ [] 40 Tryz.f121 [.pointer (some ⟨0,0,none⟩),.func (.func 123) ⟨[]⟩ ⟨[]⟩,.agg ⟨[.int .i64 AV,.int .i64 AU]⟩,.agg ⟨[.int .i64 CM,.int .i64 CL]⟩] [.cs [.int .i64 s0_0] 98]=Aw.K B6 BQ BP BO s0_0 AV AU CM CL (fun r=>some (.agg ⟨[.int .i64 r.1,.int .i64 r.2.1]⟩,[.cs [.int .i64 r.2.2] 98])):=by kernel_rfl
def Aw:Int×Int×Int:=Aw.K Au Cr Bt Cq s0_0 AV AU CM CL id
theorem Aw.nat (k:Int×Int×Int→R):Aw.K B6 BQ BP BO s0_0 AV AU CM CL k=k (Aw.K B6 BQ BP BO s0_0 AV AU CM CL id):=by
 simp only [Aw.K,acond k,id_eq]
theorem Aw.eq (s a b c d:Int):Aw s a b c d=st s a b (idiv a b c d):=by
 simp only [Aw,Aw.K,id_eq,Bt.eq,Au.eq,st]
 by_cases hs:s=0
 ·subst hs; rfl
 ·simp only [E8 hs,cond_true]
end
theorem EG.ok:SOK Tryz.prog 121 (EG.sp Ax Av Aw):=by
 refine Dl (E:=⟨[(62,Au.sp Au),(122,Cr.sp Cr),(123,Bt.sp Bt),(124,Cq.sp Cq)],[],[]⟩) (L:=[]) ⟨(Aa Au.ok (Aa Cr.ok (Aa Bt.ok (Aa Cq.ok Ac)))),Aq,Aj,Ap⟩ 40 Tryz.func121 (by decide) rfl Bf fun vs bl v bl' h=> ?_
 unfold EG.sp at h
 split at h
 ·rename_i AV AU CM CL s0_0
  simp only [zS,zP,true_and] at h
  obtain ⟨rfl,rfl⟩:=h
  refine ⟨?_,by simp [okV,Nat.blt],clo_spec 8 _ (by kernel_rfl),Bg (by kernel_rfl)⟩
  refine (Ax.run Au Cr Bt Cq s0_0 AV AU CM CL).trans ?_
  refine (Ax.nat Au Cr Bt Cq s0_0 AV AU CM CL _).trans ?_
  kernel_rfl
 ·rename_i AV AU CM CL s0_0
  simp only [zS,zP,true_and] at h
  obtain ⟨rfl,rfl⟩:=h
  refine ⟨?_,by simp [okV,Nat.blt],clo_spec 8 _ (by kernel_rfl),Bg (by kernel_rfl)⟩
  refine (Av.run Au Cr Bt Cq s0_0 AV AU CM CL).trans ?_
  refine (Av.nat Au Cr Bt Cq s0_0 AV AU CM CL _).trans ?_
  kernel_rfl
 ·rename_i AV AU CM CL s0_0
  simp only [zS,zP,true_and] at h
  obtain ⟨rfl,rfl⟩:=h
  refine ⟨?_,by simp [okV,Nat.blt],clo_spec 8 _ (by kernel_rfl),Bg (by kernel_rfl)⟩
  refine (Aw.run Au Cr Bt Cq s0_0 AV AU CM CL).trans ?_
  refine (Aw.nat Au Cr Bt Cq s0_0 AV AU CM CL _).trans ?_
  kernel_rfl
 ·cases h
section
variable {R:Type} (B2:Int→Int→Int→Int→Int→(Int×Int×Int)) (AY:Int→Int→Int→Int→Int→(Int×Int×Int)) (AZ:Int→Int→Int→Int→Int→(Int×Int×Int)) (BQ:Int→Int→Int→Int→(Int×Int×Int)) (s0_0:Int) (AC:Int) (AB:Int) (AV:Int) (AU:Int)
def Bq.K {R:Type} (B2:Int→Int→Int→Int→Int→(Int×Int×Int)) (AY:Int→Int→Int→Int→Int→(Int×Int×Int)) (AZ:Int→Int→Int→Int→Int→(Int×Int×Int)) (BQ:Int→Int→Int→Int→(Int×Int×Int)) (s0_0:Int) (AC:Int) (AB:Int) (AV:Int) (AU:Int) (k:Int×Int×Int→R):R:=
 let t0:=B2 s0_0 AC AB AV AU
 k (t0.1,t0.2.1,t0.2.2)
theorem Bq.run:xfn Tryz.prog ⟨[(121,EG.sp B2 AY AZ),(122,Cr.sp BQ)],[],[]⟩ [] 40 Tryz.f68 [.pointer (some ⟨0,0,none⟩),.agg ⟨[.int .i64 AC,.int .i64 AB]⟩,.agg ⟨[.int .i64 AV,.int .i64 AU]⟩] [.cs [.int .i64 s0_0] 98]=Bq.K B2 AY AZ BQ s0_0 AC AB AV AU (fun r=>some (.agg ⟨[.int .i64 r.1,.int .i64 r.2.1]⟩,[.cs [.int .i64 r.2.2] 98])):=by kernel_rfl
def Bq:Int×Int×Int:=Bq.K Ax Av Aw Cr s0_0 AC AB AV AU id
theorem Bq.nat (k:Int×Int×Int→R):Bq.K B2 AY AZ BQ s0_0 AC AB AV AU k=k (Bq.K B2 AY AZ BQ s0_0 AC AB AV AU id):=by
 simp only [Bq.K,acond k,id_eq]
theorem Bq.eq (s a b c d:Int):Bq s a b c d=st s a b (iadd a b c d):=by
 simp only [Bq,Bq.K,id_eq,Ax.eq]
end
theorem Bq.ok:SOK Tryz.prog 68 (Bq.sp Bq):=by
 refine Dl (E:=⟨[(121,EG.sp Ax Av Aw),(122,Cr.sp Cr)],[],[]⟩) (L:=[]) ⟨(Aa EG.ok (Aa Cr.ok Ac)),Aq,Aj,Ap⟩ 40 Tryz.func68 (by decide) rfl Bf fun vs bl v bl' h=> ?_
 unfold Bq.sp at h
 split at h
 ·rename_i AC AB AV AU s0_0
  simp only [zS,zP,true_and] at h
  obtain ⟨rfl,rfl⟩:=h
  refine ⟨?_,by simp [okV,Nat.blt],clo_spec 8 _ (by kernel_rfl),Bg (by kernel_rfl)⟩
  refine (Bq.run Ax Av Aw Cr s0_0 AC AB AV AU).trans ?_
  refine (Bq.nat Ax Av Aw Cr s0_0 AC AB AV AU _).trans ?_
  kernel_rfl
 ·cases h
section
variable {R:Type} (B2:Int→Int→Int→Int→Int→(Int×Int×Int)) (AY:Int→Int→Int→Int→Int→(Int×Int×Int)) (AZ:Int→Int→Int→Int→Int→(Int×Int×Int)) (BP:Int→Int→Int→Int→(Int×Int×Int)) (s0_0:Int) (AC:Int) (AB:Int) (AV:Int) (AU:Int)
def Bp.K {R:Type} (B2:Int→Int→Int→Int→Int→(Int×Int×Int)) (AY:Int→Int→Int→Int→Int→(Int×Int×Int)) (AZ:Int→Int→Int→Int→Int→(Int×Int×Int)) (BP:Int→Int→Int→Int→(Int×Int×Int)) (s0_0:Int) (AC:Int) (AB:Int) (AV:Int) (AU:Int) (k:Int×Int×Int→R):R:=
 let t0:=AZ s0_0 AC AB AV AU
 k (t0.1,t0.2.1,t0.2.2)
theorem Bp.run:xfn Tryz.prog ⟨[(121,EG.sp B2 AY AZ),(123,Bt.sp BP)],[],[]⟩ [] 40 Tryz.f69 [.pointer (some ⟨0,0,none⟩),.agg ⟨[.int .i64 AC,.int .i64 AB]⟩,.agg ⟨[.int .i64 AV,.int .i64 AU]⟩] [.cs [.int .i64 s0_0] 98]=Bp.K B2 AY AZ BP s0_0 AC AB AV AU (fun r=>some (.agg ⟨[.int .i64 r.1,.int .i64 r.2.1]⟩,[.cs [.int .i64 r.2.2] 98])):=by kernel_rfl
def Bp:Int×Int×Int:=Bp.K Ax Av Aw Bt s0_0 AC AB AV AU id
theorem Bp.nat (k:Int×Int×Int→R):Bp.K B2 AY AZ BP s0_0 AC AB AV AU k=k (Bp.K B2 AY AZ BP s0_0 AC AB AV AU id):=by
 simp only [Bp.K,acond k,id_eq]
theorem Bp.eq (s a b c d:Int):Bp s a b c d=st s a b (idiv a b c d):=by
 simp only [Bp,Bp.K,id_eq,Aw.eq]
end
theorem Bp.ok:SOK Tryz.prog 69 (Bp.sp Bp):=by
 refine Dl (E:=⟨[(121,EG.sp Ax Av Aw),(123,Bt.sp Bt)],[],[]⟩) (L:=[]) ⟨(Aa EG.ok (Aa Bt.ok Ac)),Aq,Aj,Ap⟩ 40 Tryz.func69 (by decide) rfl Bf fun vs bl v bl' h=> ?_
 unfold Bp.sp at h
 split at h
 ·rename_i AC AB AV AU s0_0
  simp only [zS,zP,true_and] at h
  obtain ⟨rfl,rfl⟩:=h
  refine ⟨?_,by simp [okV,Nat.blt],clo_spec 8 _ (by kernel_rfl),Bg (by kernel_rfl)⟩
  refine (Bp.run Ax Av Aw Bt s0_0 AC AB AV AU).trans ?_
  refine (Bp.nat Ax Av Aw Bt s0_0 AC AB AV AU _).trans ?_
  kernel_rfl
 ·cases h
section
variable {R:Type} (B2:Int→Int→Int→Int→Int→(Int×Int×Int)) (AY:Int→Int→Int→Int→Int→(Int×Int×Int)) (AZ:Int→Int→Int→Int→Int→(Int×Int×Int)) (BO:Int→Int→Int→Int→(Int×Int×Int)) (s0_0:Int) (AC:Int) (AB:Int) (AV:Int) (AU:Int)
def Cm.K {R:Type} (B2:Int→Int→Int→Int→Int→(Int×Int×Int)) (AY:Int→Int→Int→Int→Int→(Int×Int×Int)) (AZ:Int→Int→Int→Int→Int→(Int×Int×Int)) (BO:Int→Int→Int→Int→(Int×Int×Int)) (s0_0:Int) (AC:Int) (AB:Int) (AV:Int) (AU:Int) (k:Int×Int×Int→R):R:=
 let t0:=AY s0_0 AC AB AV AU
 k (t0.1,t0.2.1,t0.2.2)
theorem Cm.run:xfn Tryz.prog ⟨[(121,EG.sp B2 AY AZ),(124,Cq.sp BO)],[],[]⟩ [] 40 Tryz.f70 [.pointer (some ⟨0,0,none⟩),.agg ⟨[.int .i64 AC,.int .i64 AB]⟩,.agg ⟨[.int .i64 AV,.int .i64 AU]⟩] [.cs [.int .i64 s0_0] 98]=Cm.K B2 AY AZ BO s0_0 AC AB AV AU (fun r=>some (.agg ⟨[.int .i64 r.1,.int .i64 r.2.1]⟩,[.cs [.int .i64 r.2.2] 98])):=by kernel_rfl
def Cm:Int×Int×Int:=Cm.K Ax Av Aw Cq s0_0 AC AB AV AU id
theorem Cm.nat (k:Int×Int×Int→R):Cm.K B2 AY AZ BO s0_0 AC AB AV AU k=k (Cm.K B2 AY AZ BO s0_0 AC AB AV AU id):=by
 simp only [Cm.K,acond k,id_eq]
theorem Cm.eq (s a b c d:Int):Cm s a b c d=st s a b (isub a b c d):=by
 simp only [Cm,Cm.K,id_eq,Av.eq]
end
theorem Cm.ok:SOK Tryz.prog 70 (Cm.sp Cm):=by
 refine Dl (E:=⟨[(121,EG.sp Ax Av Aw),(124,Cq.sp Cq)],[],[]⟩) (L:=[]) ⟨(Aa EG.ok (Aa Cq.ok Ac)),Aq,Aj,Ap⟩ 40 Tryz.func70 (by decide) rfl Bf fun vs bl v bl' h=> ?_
 unfold Cm.sp at h
 split at h
 ·rename_i AC AB AV AU s0_0
  simp only [zS,zP,true_and] at h
  obtain ⟨rfl,rfl⟩:=h
  refine ⟨?_,by simp [okV,Nat.blt],clo_spec 8 _ (by kernel_rfl),Bg (by kernel_rfl)⟩
  refine (Cm.run Ax Av Aw Cq s0_0 AC AB AV AU).trans ?_
  refine (Cm.nat Ax Av Aw Cq s0_0 AC AB AV AU _).trans ?_
  kernel_rfl
 ·cases h
section
variable {R:Type} (C3:Int→Int→Int→Int→Int→Int→Int→(Int×Int×Int×Int×Int×Int×Int×Int)) (AW:Int→Int→(Bool)) (AT:Int→Int→Int→(Int×Int×Int)) (AX:Int→Int→Int→(Int×Int×Int)) (BH:Int→Int→(Int×Int×Int)) (BL:Int→Int→Int→Int→Int→(Int×Int×Int)) (BK:Int→Int→Int→Int→Int→(Int×Int×Int)) (CV:Int→Int→Int→Int→Int→(Int×Int×Int)) (A7:Int) (AA:Int) (AC:Int) (AB:Int)
def Dz.K {R:Type} (C3:Int→Int→Int→Int→Int→Int→Int→(Int×Int×Int×Int×Int×Int×Int×Int)) (AW:Int→Int→(Bool)) (AT:Int→Int→Int→(Int×Int×Int)) (AX:Int→Int→Int→(Int×Int×Int)) (BH:Int→Int→(Int×Int×Int)) (BL:Int→Int→Int→Int→Int→(Int×Int×Int)) (BK:Int→Int→Int→Int→Int→(Int×Int×Int)) (CV:Int→Int→Int→Int→Int→(Int×Int×Int)) (A7:Int) (AA:Int) (AC:Int) (AB:Int) (k:Int×Int×Int×Int×Int×Int×Int→R):R:=
 let t0:=AW A7 AA
 bif !t0 then k (0,0,0,0,0,0,1) else
 let t1:=AW AC AB
 bif !t1 then k (0,0,0,0,0,0,1) else
 let t2:=AT 0 A7 AA
 let t3:=AT t2.2.2 AC AB
 let t4:=BL t3.2.2 t2.1 t2.2.1 t3.1 t3.2.1
 let t5:=BL t4.2.2 16777216 16777216 t4.1 t4.2.1
 let t6:=BL t5.2.2 A7 AA A7 AA
 let t7:=BK t6.2.2 t6.1 t6.2.1 t5.1 t5.2.1
 let t8:=BL t7.2.2 AC AB AC AB
 let t9:=BK t8.2.2 t8.1 t8.2.1 t5.1 t5.2.1
 let t10:=CV t9.2.2 t4.1 t4.2.1 16777216 16777216
 let t11:=BK t10.2.2 t10.1 t10.2.1 t5.1 t5.2.1
 let t12:=C3 t11.2.2 t7.1 t7.2.1 t9.1 t9.2.1 t11.1 t11.2.1
 k (t12.1,t12.2.1,t12.2.2.1,t12.2.2.2.1,t12.2.2.2.2.1,t12.2.2.2.2.2.1,t12.2.2.2.2.2.2.1)
theorem Dz.run:xfn Tryz.prog ⟨[(64,Bv.sp C3),(65,Ah.sp AW),(66,EH.sp AT AX),(67,Bn.sp BH),(68,Bq.sp BL),(69,Bp.sp BK),(70,Cm.sp CV)],[],[]⟩ [] 40 Tryz.f20 [.agg ⟨[.int .i64 A7,.int .i64 AA]⟩,.agg ⟨[.int .i64 AC,.int .i64 AB]⟩] []=Dz.K C3 AW AT AX BH BL BK CV A7 AA AC AB (fun r=>some (.tuple ⟨[.agg ⟨[.int .i64 r.1,.int .i64 r.2.1,.int .i64 r.2.2.1,.int .i64 r.2.2.2.1,.int .i64 r.2.2.2.2.1,.int .i64 r.2.2.2.2.2.1]⟩,.int .i64 r.2.2.2.2.2.2]⟩,[])):=by kernel_rfl
def Dz:Int×Int×Int×Int×Int×Int×Int:=Dz.K Bv Ah Ar At Bn Bq Bp Cm A7 AA AC AB id
theorem Dz.nat (k:Int×Int×Int×Int×Int×Int×Int→R):Dz.K C3 AW AT AX BH BL BK CV A7 AA AC AB k=k (Dz.K C3 AW AT AX BH BL BK CV A7 AA AC AB id):=by
 simp only [Dz.K,acond k,id_eq]
end
def dnorm (a:Bx):Re I2:=bif VB a then (sqR a.1).bind fun x=>(sqR a.2.1).bind fun y=>(sqR a.2.2).bind fun z=>(addR x y).bind fun s=>addR s z else .er 1
def dunit (a:Bx):Re Bx:=(dnorm a).bind fun n=>(rtR n).bind fun l=>dzip divR a (l,l,l)
def dof (u v:I2):Re Bx:=bif V2 u then (bif V2 v then (sqR u).bind fun p=>(sqR v).bind fun q=>(addR p q).bind fun s=>(addR one2 s).bind fun w=>(addR u u).bind fun x=>(divR x w).bind fun X=>(addR v v).bind fun y=>(divR y w).bind fun Y=>(subR s one2).bind fun z=>(divR z w).bind fun Z=> .ok (X,Y,Z) else .er 1) else .er 1
theorem Na (a:Bx):Nz (dnorm a):=Nz.cond ((Nz.t3 _).bind fun _=>(Nz.t3 _).bind fun _=>(Nz.t3 _).bind fun _=>(Nz.t3 _).bind fun _=>Nz.t3 _) Nz.one
theorem Dz.eq (a0 a1 b0 b1:Int):Dz a0 a1 b0 b1=o7 (dof (a0,a1) (b0,b1)):=by
 simp only [Dz,Dz.K,id_eq,Ah.eq,Ar.eq,Bq.eq,Cm.eq,Bp.eq,Bv,Bv.K,id_eq,dof,one2,sqR,addR,subR,divR,V2]
 cases hV0:V a0 a1 with
 | false=>
  simp only [hV0,st0,kr0,st70,E3,Cn,Co,o7,o3,o2,o11,E5,kp0,cond_true,cond_false,zN,Bool.not_false,Bool.false_and,Bool.and_false,Bool.true_and,Bool.and_true,bne_self_eq_false,beq_self_eq_true,if_true,if_false]
 | true=>
  cases hV1:V b0 b1 with
  | false=>
   simp only [hV0,hV1,st0,kr0,st70,E3,Cn,Co,o7,o3,o2,o11,E5,kp0,cond_true,cond_false,zN,Bool.not_false,Bool.false_and,Bool.and_false,Bool.true_and,Bool.and_true,bne_self_eq_false,beq_self_eq_true,if_true,if_false]
  | true=>
   rcases t3c (isq a0 a1) with ⟨p0,p1,h0⟩|⟨p0,p1,e0,n0,h0⟩
   ·simp only [hV0, hV1,h0,st0,kr0,st70,E3,Cn,Co,o7,o3,o2,o11,E5,kp0,cond_true,cond_false,zN,Bool.not_false,Bool.false_and,Bool.and_false,Bool.true_and,Bool.and_true,bne_self_eq_false,beq_self_eq_true,if_true,if_false]
    rcases t3c (isq b0 b1) with ⟨q0,q1,h1⟩|⟨q0,q1,e1,n1,h1⟩
    ·simp only [h1,st0,kr0,st70,E3,Cn,Co,o7,o3,o2,o11,E5,kp0,cond_true,cond_false,zN,Bool.not_false,Bool.false_and,Bool.and_false,Bool.true_and,Bool.and_true,bne_self_eq_false,beq_self_eq_true,if_true,if_false]
     rcases t3c (iadd p0 p1 q0 q1) with ⟨s0,s1,h2⟩|⟨s0,s1,e2,n2,h2⟩
     ·simp only [h2,st0,kr0,st70,E3,Cn,Co,o7,o3,o2,o11,E5,kp0,cond_true,cond_false,zN,Bool.not_false,Bool.false_and,Bool.and_false,Bool.true_and,Bool.and_true,bne_self_eq_false,beq_self_eq_true,if_true,if_false]
      rcases t3c (iadd 16777216 16777216 s0 s1) with ⟨w0,w1,h3⟩|⟨w0,w1,e3,n3,h3⟩
      ·simp only [h3,st0,kr0,st70,E3,Cn,Co,o7,o3,o2,o11,E5,kp0,cond_true,cond_false,zN,Bool.not_false,Bool.false_and,Bool.and_false,Bool.true_and,Bool.and_true,bne_self_eq_false,beq_self_eq_true,if_true,if_false]
       rcases t3c (iadd a0 a1 a0 a1) with ⟨x0,x1,h4⟩|⟨x0,x1,e4,n4,h4⟩
       ·simp only [h4,st0,kr0,st70,E3,Cn,Co,o7,o3,o2,o11,E5,kp0,cond_true,cond_false,zN,Bool.not_false,Bool.false_and,Bool.and_false,Bool.true_and,Bool.and_true,bne_self_eq_false,beq_self_eq_true,if_true,if_false]
        rcases t3c (idiv x0 x1 w0 w1) with ⟨X0,X1,h5⟩|⟨X0,X1,e5,n5,h5⟩
        ·simp only [h5,st0,kr0,st70,E3,Cn,Co,o7,o3,o2,o11,E5,kp0,cond_true,cond_false,zN,Bool.not_false,Bool.false_and,Bool.and_false,Bool.true_and,Bool.and_true,bne_self_eq_false,beq_self_eq_true,if_true,if_false]
         rcases t3c (iadd b0 b1 b0 b1) with ⟨y0,y1,h6⟩|⟨y0,y1,e6,n6,h6⟩
         ·simp only [h6,st0,kr0,st70,E3,Cn,Co,o7,o3,o2,o11,E5,kp0,cond_true,cond_false,zN,Bool.not_false,Bool.false_and,Bool.and_false,Bool.true_and,Bool.and_true,bne_self_eq_false,beq_self_eq_true,if_true,if_false]
          rcases t3c (idiv y0 y1 w0 w1) with ⟨Y0,Y1,h7⟩|⟨Y0,Y1,e7,n7,h7⟩
          ·simp only [h7,st0,kr0,st70,E3,Cn,Co,o7,o3,o2,o11,E5,kp0,cond_true,cond_false,zN,Bool.not_false,Bool.false_and,Bool.and_false,Bool.true_and,Bool.and_true,bne_self_eq_false,beq_self_eq_true,if_true,if_false]
           rcases t3c (isub s0 s1 16777216 16777216) with ⟨z0,z1,h8⟩|⟨z0,z1,e8,n8,h8⟩
           ·simp only [h8,st0,kr0,st70,E3,Cn,Co,o7,o3,o2,o11,E5,kp0,cond_true,cond_false,zN,Bool.not_false,Bool.false_and,Bool.and_false,Bool.true_and,Bool.and_true,bne_self_eq_false,beq_self_eq_true,if_true,if_false]
            rcases t3c (idiv z0 z1 w0 w1) with ⟨Z0,Z1,h9⟩|⟨Z0,Z1,e9,n9,h9⟩
            ·simp only [h9,st0,kr0,st70,E3,Cn,Co,o7,o3,o2,o11,E5,kp0,cond_true,cond_false,zN,Bool.not_false,Bool.false_and,Bool.and_false,Bool.true_and,Bool.and_true,bne_self_eq_false,beq_self_eq_true,if_true,if_false]
            ·simp only [h9,stE n9,krE n9,st7E n9,El n9,E8 n9,E9 n9,kpn _ n9,st0,kr0,st70,E3,Cn,Co,o7,o3,o2,o11,E5,kp0,cond_true,cond_false,zN,Bool.not_false,Bool.false_and,Bool.and_false,Bool.true_and,Bool.and_true,bne_self_eq_false,beq_self_eq_true,if_true,if_false]
           ·simp only [h8,stE n8,krE n8,st7E n8,El n8,E8 n8,E9 n8,kpn _ n8,st0,kr0,st70,E3,Cn,Co,o7,o3,o2,o11,E5,kp0,cond_true,cond_false,zN,Bool.not_false,Bool.false_and,Bool.and_false,Bool.true_and,Bool.and_true,bne_self_eq_false,beq_self_eq_true,if_true,if_false]
          ·simp only [h7,stE n7,krE n7,st7E n7,El n7,E8 n7,E9 n7,kpn _ n7,st0,kr0,st70,E3,Cn,Co,o7,o3,o2,o11,E5,kp0,cond_true,cond_false,zN,Bool.not_false,Bool.false_and,Bool.and_false,Bool.true_and,Bool.and_true,bne_self_eq_false,beq_self_eq_true,if_true,if_false]
         ·simp only [h6,stE n6,krE n6,st7E n6,El n6,E8 n6,E9 n6,kpn _ n6,st0,kr0,st70,E3,Cn,Co,o7,o3,o2,o11,E5,kp0,cond_true,cond_false,zN,Bool.not_false,Bool.false_and,Bool.and_false,Bool.true_and,Bool.and_true,bne_self_eq_false,beq_self_eq_true,if_true,if_false]
        ·simp only [h5,stE n5,krE n5,st7E n5,El n5,E8 n5,E9 n5,kpn _ n5,st0,kr0,st70,E3,Cn,Co,o7,o3,o2,o11,E5,kp0,cond_true,cond_false,zN,Bool.not_false,Bool.false_and,Bool.and_false,Bool.true_and,Bool.and_true,bne_self_eq_false,beq_self_eq_true,if_true,if_false]
       ·simp only [h4,stE n4,krE n4,st7E n4,El n4,E8 n4,E9 n4,kpn _ n4,st0,kr0,st70,E3,Cn,Co,o7,o3,o2,o11,E5,kp0,cond_true,cond_false,zN,Bool.not_false,Bool.false_and,Bool.and_false,Bool.true_and,Bool.and_true,bne_self_eq_false,beq_self_eq_true,if_true,if_false]
      ·simp only [h3,stE n3,krE n3,st7E n3,El n3,E8 n3,E9 n3,kpn _ n3,st0,kr0,st70,E3,Cn,Co,o7,o3,o2,o11,E5,kp0,cond_true,cond_false,zN,Bool.not_false,Bool.false_and,Bool.and_false,Bool.true_and,Bool.and_true,bne_self_eq_false,beq_self_eq_true,if_true,if_false]
     ·simp only [h2,stE n2,krE n2,st7E n2,El n2,E8 n2,E9 n2,kpn _ n2,st0,kr0,st70,E3,Cn,Co,o7,o3,o2,o11,E5,kp0,cond_true,cond_false,zN,Bool.not_false,Bool.false_and,Bool.and_false,Bool.true_and,Bool.and_true,bne_self_eq_false,beq_self_eq_true,if_true,if_false]
    ·simp only [h1,stE n1,krE n1,st7E n1,El n1,E8 n1,E9 n1,kpn _ n1,st0,kr0,st70,E3,Cn,Co,o7,o3,o2,o11,E5,kp0,cond_true,cond_false,zN,Bool.not_false,Bool.false_and,Bool.and_false,Bool.true_and,Bool.and_true,bne_self_eq_false,beq_self_eq_true,if_true,if_false]
   ·simp only [hV0,hV1,h0,stE n0,krE n0,st7E n0,El n0,E8 n0,E9 n0,kpn _ n0,st0,kr0,st70,E3,Cn,Co,o7,o3,o2,o11,E5,kp0,cond_true,cond_false,zN,Bool.not_false,Bool.false_and,Bool.and_false,Bool.true_and,Bool.and_true,bne_self_eq_false,beq_self_eq_true,if_true,if_false]
theorem Dz.ok:SOK Tryz.prog 20 (Dz.sp Dz):=by
 refine Dl (E:=⟨[(64,Bv.sp Bv),(65,Ah.sp Ah),(66,EH.sp Ar At),(67,Bn.sp Bn),(68,Bq.sp Bq),(69,Bp.sp Bp),(70,Cm.sp Cm)],[],[]⟩) (L:=[]) ⟨(Aa Bv.ok (Aa Ah.ok (Aa EH.ok (Aa Bn.ok (Aa Bq.ok (Aa Bp.ok (Aa Cm.ok Ac))))))),Aq,Aj,Ap⟩ 40 Tryz.func20 (by decide) rfl Bf fun vs bl v bl' h=> ?_
 unfold Dz.sp at h
 split at h
 ·rename_i A7 AA AC AB
  simp only [zS,zP,true_and] at h
  obtain ⟨rfl,rfl⟩:=h
  refine ⟨?_,by simp [okV,Nat.blt],clo_spec 8 _ (by kernel_rfl),Bg (by kernel_rfl)⟩
  refine (Dz.run Bv Ah Ar At Bn Bq Bp Cm A7 AA AC AB).trans ?_
  refine (Dz.nat Bv Ah Ar At Bn Bq Bp Cm A7 AA AC AB _).trans ?_
  kernel_rfl
 ·cases h
section
variable {R:Type} (AW:Int→Int→(Bool)) (A7:Int) (AA:Int) (AG:Int) (AF:Int) (AE:Int) (AD:Int)
def Bo.K (k:(Bool)→R):R:=
 let t0:=AW A7 AA
 bif t0 then
 let t1:=AW AG AF
 bif t1 then
 let t2:=AW AE AD
 k (t2) else k (false) else k (false)
theorem Bo.run:xfn Tryz.prog ⟨[(65,Ah.sp AW)],[],[]⟩ [] 40 Tryz.f49 [.agg ⟨[.int .i64 A7,.int .i64 AA,.int .i64 AG,.int .i64 AF,.int .i64 AE,.int .i64 AD]⟩] []=Bo.K AW A7 AA AG AF AE AD (fun r=>some (.bool r,[])):=by kernel_rfl
def Bo:Bool:=Bo.K Ah A7 AA AG AF AE AD id
theorem Bo.nat (k:(Bool)→R):Bo.K AW A7 AA AG AF AE AD k=k (Bo.K AW A7 AA AG AF AE AD id):=by
 simp only [Bo.K,acond k,id_eq]
theorem Bo.eq (a0 a1 a2 a3 a4 a5:Int):Bo a0 a1 a2 a3 a4 a5=VB ((a0,a1),(a2,a3),(a4,a5)):=by
 simp only [Bo,Bo.K,id_eq,Ah.eq,VB,V2]
 cases V a0 a1<;>cases V a2 a3<;>cases V a4 a5<;>rfl
end
theorem Bo.ok:SOK Tryz.prog 49 (Bo.sp Bo):=by
 refine Dl (E:=⟨[(65,Ah.sp Ah)],[],[]⟩) (L:=[]) ⟨(Aa Ah.ok Ac),Aq,Aj,Ap⟩ 40 Tryz.func49 (by decide) rfl Bf fun vs bl v bl' h=> ?_
 unfold Bo.sp at h
 split at h
 ·rename_i A7 AA AG AF AE AD
  simp only [zS,zP,true_and] at h
  obtain ⟨rfl,rfl⟩:=h
  refine ⟨?_,by simp [okV,Nat.blt],clo_spec 8 _ (by kernel_rfl),Bg (by kernel_rfl)⟩
  refine (Bo.run Ah A7 AA AG AF AE AD).trans ?_
  refine (Bo.nat Ah A7 AA AG AF AE AD _).trans ?_
  kernel_rfl
 ·cases h
section
variable {R:Type} (s0_0:Int) (AC:Int) (AB:Int)
def Cg.K (k:Int×Int×Int×Int→R):R:=
 bif s0_0 !=0 then k (0,0,s0_0,s0_0) else k (AC,AB,0,s0_0)
theorem Cg.run:xfn Tryz.prog ⟨[],[],[]⟩ [] 40 Tryz.f71 [.pointer (some ⟨0,0,none⟩),.agg ⟨[.int .i64 AC,.int .i64 AB]⟩] [.cs [.int .i64 s0_0] 98]=Cg.K s0_0 AC AB (fun r=>some (.tuple ⟨[.agg ⟨[.int .i64 r.1,.int .i64 r.2.1]⟩,.int .i64 r.2.2.1]⟩,[.cs [.int .i64 r.2.2.2] 98])):=by kernel_rfl
def Cg:Int×Int×Int×Int:=Cg.K s0_0 AC AB id
theorem Cg.nat (k:Int×Int×Int×Int→R):Cg.K s0_0 AC AB k=k (Cg.K s0_0 AC AB id):=by
 simp only [Cg.K,acond k,id_eq]
end
theorem Cg.ok:SOK Tryz.prog 71 (Cg.sp Cg):=by
 refine Dl (E:=⟨[],[],[]⟩) (L:=[]) ⟨Ac,Aq,Aj,Ap⟩ 40 Tryz.func71 (by decide) rfl Bf fun vs bl v bl' h=> ?_
 unfold Cg.sp at h
 split at h
 ·rename_i AC AB s0_0
  simp only [zS,zP,true_and] at h
  obtain ⟨rfl,rfl⟩:=h
  refine ⟨?_,by simp [okV,Nat.blt],clo_spec 8 _ (by kernel_rfl),Bg (by kernel_rfl)⟩
  refine (Cg.run s0_0 AC AB).trans ?_
  refine (Cg.nat s0_0 AC AB _).trans ?_
  kernel_rfl
 ·cases h
section
variable {R:Type} (CB:Int→Int→Int→Int→Int→Int→(Bool)) (AT:Int→Int→Int→(Int×Int×Int)) (AX:Int→Int→Int→(Int×Int×Int)) (BH:Int→Int→(Int×Int×Int)) (BL:Int→Int→Int→Int→Int→(Int×Int×Int)) (CQ:Int→Int→Int→(Int×Int×Int×Int)) (A7:Int) (AA:Int) (AG:Int) (AF:Int) (AE:Int) (AD:Int)
def Ci.K {R:Type} (CB:Int→Int→Int→Int→Int→Int→(Bool)) (AT:Int→Int→Int→(Int×Int×Int)) (AX:Int→Int→Int→(Int×Int×Int)) (BH:Int→Int→(Int×Int×Int)) (BL:Int→Int→Int→Int→Int→(Int×Int×Int)) (CQ:Int→Int→Int→(Int×Int×Int×Int)) (A7:Int) (AA:Int) (AG:Int) (AF:Int) (AE:Int) (AD:Int) (k:Int×Int×Int→R):R:=
 let t0:=CB A7 AA AG AF AE AD
 bif !t0 then k (0,0,1) else
 let t1:=AT 0 A7 AA
 let t2:=AT t1.2.2 AG AF
 let t3:=AT t2.2.2 AE AD
 let t4:=BL t3.2.2 t1.1 t1.2.1 t2.1 t2.2.1
 let t5:=BL t4.2.2 t4.1 t4.2.1 t3.1 t3.2.1
 let t6:=CQ t5.2.2 t5.1 t5.2.1
 k (t6.1,t6.2.1,t6.2.2.1)
theorem Ci.run:xfn Tryz.prog ⟨[(49,Bo.sp CB),(66,EH.sp AT AX),(67,Bn.sp BH),(68,Bq.sp BL),(71,Cg.sp CQ)],[],[]⟩ [] 40 Tryz.f21 [.agg ⟨[.int .i64 A7,.int .i64 AA,.int .i64 AG,.int .i64 AF,.int .i64 AE,.int .i64 AD]⟩] []=Ci.K CB AT AX BH BL CQ A7 AA AG AF AE AD (fun r=>some (.tuple ⟨[.agg ⟨[.int .i64 r.1,.int .i64 r.2.1]⟩,.int .i64 r.2.2]⟩,[])):=by kernel_rfl
def Ci:Int×Int×Int:=Ci.K Bo Ar At Bn Bq Cg A7 AA AG AF AE AD id
theorem Ci.nat (k:Int×Int×Int→R):Ci.K CB AT AX BH BL CQ A7 AA AG AF AE AD k=k (Ci.K CB AT AX BH BL CQ A7 AA AG AF AE AD id):=by
 simp only [Ci.K,acond k,id_eq]
theorem Ci.eq (a0 a1 a2 a3 a4 a5:Int):Ci a0 a1 a2 a3 a4 a5=o3 (dnorm ((a0,a1),(a2,a3),(a4,a5))):=by
 simp only [Ci,Ci.K,id_eq,Bo.eq,Ar.eq,Bq.eq,Cg,Cg.K,id_eq,dnorm,sqR,addR]
 cases hV0:VB ((a0,a1),(a2,a3),(a4,a5)) with
 | false=>
  simp only [hV0,st0,kr0,st70,E3,Cn,Co,o7,o3,o2,o11,E5,kp0,cond_true,cond_false,zN,Bool.not_false,Bool.false_and,Bool.and_false,Bool.true_and,Bool.and_true,bne_self_eq_false,beq_self_eq_true,if_true,if_false]
 | true=>
  rcases t3c (isq a0 a1) with ⟨x0,x1,h0⟩|⟨x0,x1,e0,n0,h0⟩
  ·simp only [hV0,h0,st0,kr0,st70,E3,Cn,Co,o7,o3,o2,o11,E5,kp0,cond_true,cond_false,zN,Bool.not_false,Bool.false_and,Bool.and_false,Bool.true_and,Bool.and_true,bne_self_eq_false,beq_self_eq_true,if_true,if_false]
   rcases t3c (isq a2 a3) with ⟨y0,y1,h1⟩|⟨y0,y1,e1,n1,h1⟩
   ·simp only [h1,st0,kr0,st70,E3,Cn,Co,o7,o3,o2,o11,E5,kp0,cond_true,cond_false,zN,Bool.not_false,Bool.false_and,Bool.and_false,Bool.true_and,Bool.and_true,bne_self_eq_false,beq_self_eq_true,if_true,if_false]
    rcases t3c (isq a4 a5) with ⟨z0,z1,h2⟩|⟨z0,z1,e2,n2,h2⟩
    ·simp only [h2,st0,kr0,st70,E3,Cn,Co,o7,o3,o2,o11,E5,kp0,cond_true,cond_false,zN,Bool.not_false,Bool.false_and,Bool.and_false,Bool.true_and,Bool.and_true,bne_self_eq_false,beq_self_eq_true,if_true,if_false]
     rcases t3c (iadd x0 x1 y0 y1) with ⟨s0,s1,h3⟩|⟨s0,s1,e3,n3,h3⟩
     ·simp only [h3,st0,kr0,st70,E3,Cn,Co,o7,o3,o2,o11,E5,kp0,cond_true,cond_false,zN,Bool.not_false,Bool.false_and,Bool.and_false,Bool.true_and,Bool.and_true,bne_self_eq_false,beq_self_eq_true,if_true,if_false]
      rcases t3c (iadd s0 s1 z0 z1) with ⟨t0,t1,h4⟩|⟨t0,t1,e4,n4,h4⟩
      ·simp only [h4,st0,kr0,st70,E3,Cn,Co,o7,o3,o2,o11,E5,kp0,cond_true,cond_false,zN,Bool.not_false,Bool.false_and,Bool.and_false,Bool.true_and,Bool.and_true,bne_self_eq_false,beq_self_eq_true,if_true,if_false]
      ·simp only [h4,stE n4,krE n4,st7E n4,El n4,E8 n4,E9 n4,kpn _ n4,st0,kr0,st70,E3,Cn,Co,o7,o3,o2,o11,E5,kp0,cond_true,cond_false,zN,Bool.not_false,Bool.false_and,Bool.and_false,Bool.true_and,Bool.and_true,bne_self_eq_false,beq_self_eq_true,if_true,if_false]
     ·simp only [h3,stE n3,krE n3,st7E n3,El n3,E8 n3,E9 n3,kpn _ n3,st0,kr0,st70,E3,Cn,Co,o7,o3,o2,o11,E5,kp0,cond_true,cond_false,zN,Bool.not_false,Bool.false_and,Bool.and_false,Bool.true_and,Bool.and_true,bne_self_eq_false,beq_self_eq_true,if_true,if_false]
    ·simp only [h2,stE n2,krE n2,st7E n2,El n2,E8 n2,E9 n2,kpn _ n2,st0,kr0,st70,E3,Cn,Co,o7,o3,o2,o11,E5,kp0,cond_true,cond_false,zN,Bool.not_false,Bool.false_and,Bool.and_false,Bool.true_and,Bool.and_true,bne_self_eq_false,beq_self_eq_true,if_true,if_false]
   ·simp only [h1,stE n1,krE n1,st7E n1,El n1,E8 n1,E9 n1,kpn _ n1,st0,kr0,st70,E3,Cn,Co,o7,o3,o2,o11,E5,kp0,cond_true,cond_false,zN,Bool.not_false,Bool.false_and,Bool.and_false,Bool.true_and,Bool.and_true,bne_self_eq_false,beq_self_eq_true,if_true,if_false]
  ·simp only [hV0,h0,stE n0,krE n0,st7E n0,El n0,E8 n0,E9 n0,kpn _ n0,st0,kr0,st70,E3,Cn,Co,o7,o3,o2,o11,E5,kp0,cond_true,cond_false,zN,Bool.not_false,Bool.false_and,Bool.and_false,Bool.true_and,Bool.and_true,bne_self_eq_false,beq_self_eq_true,if_true,if_false]
end
theorem Ci.ok:SOK Tryz.prog 21 (Ci.sp Ci):=by
 refine Dl (E:=⟨[(49,Bo.sp Bo),(66,EH.sp Ar At),(67,Bn.sp Bn),(68,Bq.sp Bq),(71,Cg.sp Cg)],[],[]⟩) (L:=[]) ⟨(Aa Bo.ok (Aa EH.ok (Aa Bn.ok (Aa Bq.ok (Aa Cg.ok Ac))))),Aq,Aj,Ap⟩ 40 Tryz.func21 (by decide) rfl Bf fun vs bl v bl' h=> ?_
 unfold Ci.sp at h
 split at h
 ·rename_i A7 AA AG AF AE AD
  simp only [zS,zP,true_and] at h
  obtain ⟨rfl,rfl⟩:=h
  refine ⟨?_,by simp [okV,Nat.blt],clo_spec 8 _ (by kernel_rfl),Bg (by kernel_rfl)⟩
  refine (Ci.run Bo Ar At Bn Bq Cg A7 AA AG AF AE AD).trans ?_
  refine (Ci.nat Bo Ar At Bn Bq Cg A7 AA AG AF AE AD _).trans ?_
  kernel_rfl
 ·cases h
section
variable {R:Type} (A7:Int) (AA:Int) (AG:Int) (AF:Int) (AE:Int) (AD:Int)
def Df.K (k:Int×Int×Int×Int×Int×Int→R):R:=
 k (A7,AA,AG,AF,AE,AD)
theorem Df.run:xfn Tryz.prog ⟨[],[],[]⟩ [] 40 Tryz.f25 [.agg ⟨[.int .i64 A7,.int .i64 AA,.int .i64 AG,.int .i64 AF,.int .i64 AE,.int .i64 AD]⟩] []=Df.K A7 AA AG AF AE AD (fun r=>some (.agg ⟨[.int .i64 r.1,.int .i64 r.2.1,.int .i64 r.2.2.1,.int .i64 r.2.2.2.1,.int .i64 r.2.2.2.2.1,.int .i64 r.2.2.2.2.2]⟩,[])):=by kernel_rfl
def Df:Int×Int×Int×Int×Int×Int:=Df.K A7 AA AG AF AE AD id
theorem Df.nat (k:Int×Int×Int×Int×Int×Int→R):Df.K A7 AA AG AF AE AD k=k (Df.K A7 AA AG AF AE AD id):=by
 simp only [Df.K,acond k,id_eq]
end
theorem Df.ok:SOK Tryz.prog 25 (Df.sp Df):=by
 refine Dl (E:=⟨[],[],[]⟩) (L:=[]) ⟨Ac,Aq,Aj,Ap⟩ 40 Tryz.func25 (by decide) rfl Bf fun vs bl v bl' h=> ?_
 unfold Df.sp at h
 split at h
 ·rename_i A7 AA AG AF AE AD
  simp only [zS,zP,true_and] at h
  obtain ⟨rfl,rfl⟩:=h
  refine ⟨?_,by simp [okV,Nat.blt],clo_spec 8 _ (by kernel_rfl),Bg (by kernel_rfl)⟩
  refine (Df.run A7 AA AG AF AE AD).trans ?_
  refine (Df.nat A7 AA AG AF AE AD _).trans ?_
  kernel_rfl
 ·cases h
section
variable {R:Type} (A7:Int) (AA:Int)
def Ad.K (k:(Bool)→R):R:=
 bif decide (-1073741824≤A7) then bif decide (A7≤AA) then k (decide (AA≤1073741824)) else k (false) else k (false)
theorem Ad.run:xfn Tryz.prog ⟨[],[],[]⟩ [] 40 Tryz.f76 [.agg ⟨[.int .i64 A7,.int .i64 AA]⟩] []=Ad.K A7 AA (fun r=>some (.bool r,[])):=by kernel_rfl
def Ad:Bool:=Ad.K A7 AA id
theorem Ad.nat (k:(Bool)→R):Ad.K A7 AA k=k (Ad.K A7 AA id):=by
 simp only [Ad.K,acond k,id_eq]
theorem Ad.eq (a b:Int):Ad a b=V a b:=by
 simp only [Ad,Ad.K,id_eq,V]
 by_cases h1: -1073741824≤a<;>by_cases h2:a≤b<;>by_cases h3:b≤1073741824<;>simp [h1,h2,h3]
end
theorem Ad.ok:SOK Tryz.prog 76 (Ad.sp Ad):=by
 refine Dl (E:=⟨[],[],[]⟩) (L:=[]) ⟨Ac,Aq,Aj,Ap⟩ 40 Tryz.func76 (by decide) rfl Bf fun vs bl v bl' h=> ?_
 unfold Ad.sp at h
 split at h
 ·rename_i A7 AA
  simp only [zS,zP,true_and] at h
  obtain ⟨rfl,rfl⟩:=h
  refine ⟨?_,by simp [okV,Nat.blt],clo_spec 8 _ (by kernel_rfl),Bg (by kernel_rfl)⟩
  refine (Ad.run A7 AA).trans ?_
  refine (Ad.nat A7 AA _).trans ?_
  kernel_rfl
 ·cases h
section
variable {R:Type} (B7:Int→Int→(Bool)) (A7:Int) (AA:Int) (AG:Int) (AF:Int) (AE:Int) (AD:Int)
def Bi.K (k:(Bool)→R):R:=
 let t0:=B7 A7 AA
 bif t0 then
 let t1:=B7 AG AF
 bif t1 then
 let t2:=B7 AE AD
 k (t2) else k (false) else k (false)
theorem Bi.run:xfn Tryz.prog ⟨[(76,Ad.sp B7)],[],[]⟩ [] 40 Tryz.f34 [.agg ⟨[.int .i64 A7,.int .i64 AA,.int .i64 AG,.int .i64 AF,.int .i64 AE,.int .i64 AD]⟩] []=Bi.K B7 A7 AA AG AF AE AD (fun r=>some (.bool r,[])):=by kernel_rfl
def Bi:Bool:=Bi.K Ad A7 AA AG AF AE AD id
theorem Bi.nat (k:(Bool)→R):Bi.K B7 A7 AA AG AF AE AD k=k (Bi.K B7 A7 AA AG AF AE AD id):=by
 simp only [Bi.K,acond k,id_eq]
theorem Bi.eq (a0 a1 a2 a3 a4 a5:Int):Bi a0 a1 a2 a3 a4 a5=VB ((a0,a1),(a2,a3),(a4,a5)):=by
 simp only [Bi,Bi.K,id_eq,Ad.eq,VB,V2]
 cases V a0 a1<;>cases V a2 a3<;>cases V a4 a5<;>rfl
end
theorem Bi.ok:SOK Tryz.prog 34 (Bi.sp Bi):=by
 refine Dl (E:=⟨[(76,Ad.sp Ad)],[],[]⟩) (L:=[]) ⟨(Aa Ad.ok Ac),Aq,Aj,Ap⟩ 40 Tryz.func34 (by decide) rfl Bf fun vs bl v bl' h=> ?_
 unfold Bi.sp at h
 split at h
 ·rename_i A7 AA AG AF AE AD
  simp only [zS,zP,true_and] at h
  obtain ⟨rfl,rfl⟩:=h
  refine ⟨?_,by simp [okV,Nat.blt],clo_spec 8 _ (by kernel_rfl),Bg (by kernel_rfl)⟩
  refine (Bi.run Ad A7 AA AG AF AE AD).trans ?_
  refine (Bi.nat Ad A7 AA AG AF AE AD _).trans ?_
  kernel_rfl
 ·cases h
section
variable {R:Type} (CC:Int→Int→Int→Int→Int→Int→(Int×Int×Int)) (C3:Int→Int→Int→Int→Int→Int→Int→(Int×Int×Int×Int×Int×Int×Int×Int)) (AT:Int→Int→Int→(Int×Int×Int)) (AX:Int→Int→Int→(Int×Int×Int)) (BK:Int→Int→Int→Int→Int→(Int×Int×Int)) (C1:Int→Int→(Int×Int×Int)) (A7:Int) (AA:Int) (AG:Int) (AF:Int) (AE:Int) (AD:Int)
def Dq.K {R:Type} (CC:Int→Int→Int→Int→Int→Int→(Int×Int×Int)) (C3:Int→Int→Int→Int→Int→Int→Int→(Int×Int×Int×Int×Int×Int×Int×Int)) (AT:Int→Int→Int→(Int×Int×Int)) (AX:Int→Int→Int→(Int×Int×Int)) (BK:Int→Int→Int→Int→Int→(Int×Int×Int)) (C1:Int→Int→(Int×Int×Int)) (A7:Int) (AA:Int) (AG:Int) (AF:Int) (AE:Int) (AD:Int) (k:Int×Int×Int×Int×Int×Int×Int→R):R:=
 let t0:=CC A7 AA AG AF AE AD
 bif t0.2.2 !=0 then k (0,0,0,0,0,0,t0.2.2) else
 let t1:=AX 0 t0.1 t0.2.1
 let t2:=BK t1.2.2 A7 AA t1.1 t1.2.1
 let t3:=BK t2.2.2 AG AF t1.1 t1.2.1
 let t4:=BK t3.2.2 AE AD t1.1 t1.2.1
 let t5:=C3 t4.2.2 t2.1 t2.2.1 t3.1 t3.2.1 t4.1 t4.2.1
 k (t5.1,t5.2.1,t5.2.2.1,t5.2.2.2.1,t5.2.2.2.2.1,t5.2.2.2.2.2.1,t5.2.2.2.2.2.2.1)
theorem Dq.run:xfn Tryz.prog ⟨[(21,Ci.sp CC),(64,Bv.sp C3),(66,EH.sp AT AX),(69,Bp.sp BK),(81,Cs.sp C1)],[],[]⟩ [] 40 Tryz.f36 [.agg ⟨[.int .i64 A7,.int .i64 AA,.int .i64 AG,.int .i64 AF,.int .i64 AE,.int .i64 AD]⟩] []=Dq.K CC C3 AT AX BK C1 A7 AA AG AF AE AD (fun r=>some (.tuple ⟨[.agg ⟨[.int .i64 r.1,.int .i64 r.2.1,.int .i64 r.2.2.1,.int .i64 r.2.2.2.1,.int .i64 r.2.2.2.2.1,.int .i64 r.2.2.2.2.2.1]⟩,.int .i64 r.2.2.2.2.2.2]⟩,[])):=by kernel_rfl
def Dq:Int×Int×Int×Int×Int×Int×Int:=Dq.K Ci Bv Ar At Bp Cs A7 AA AG AF AE AD id
theorem Dq.nat (k:Int×Int×Int×Int×Int×Int×Int→R):Dq.K CC C3 AT AX BK C1 A7 AA AG AF AE AD k=k (Dq.K CC C3 AT AX BK C1 A7 AA AG AF AE AD id):=by
 simp only [Dq.K,acond k,id_eq]
theorem Dq.eq (a0 a1 a2 a3 a4 a5:Int):Dq a0 a1 a2 a3 a4 a5=o7 (dunit ((a0,a1),(a2,a3),(a4,a5))):=by
 simp only [Dq,Dq.K,id_eq,Ci.eq,At.eq,Bp.eq,Bv,Bv.K,id_eq,dunit,dzip,rtR,divR]
 rcases (Na ((a0,a1),(a2,a3),(a4,a5))).cases with ⟨⟨n0_,n1_⟩,h0⟩|⟨e0,n0,h0⟩
 ·simp only [h0,st0,kr0,st70,E3,Cn,Co,o7,o3,o2,o11,E5,kp0,cond_true,cond_false,zN,Bool.not_false,Bool.false_and,Bool.and_false,Bool.true_and,Bool.and_true,bne_self_eq_false,beq_self_eq_true,if_true,if_false]
  rcases t3c (isr n0_ n1_) with ⟨l0,l1,h1⟩|⟨l0,l1,e1,n1,h1⟩
  ·simp only [h1,st0,kr0,st70,E3,Cn,Co,o7,o3,o2,o11,E5,kp0,cond_true,cond_false,zN,Bool.not_false,Bool.false_and,Bool.and_false,Bool.true_and,Bool.and_true,bne_self_eq_false,beq_self_eq_true,if_true,if_false]
   rcases t3c (idiv a0 a1 l0 l1) with ⟨x0,x1,h2⟩|⟨x0,x1,e2,n2,h2⟩
   ·simp only [h2,st0,kr0,st70,E3,Cn,Co,o7,o3,o2,o11,E5,kp0,cond_true,cond_false,zN,Bool.not_false,Bool.false_and,Bool.and_false,Bool.true_and,Bool.and_true,bne_self_eq_false,beq_self_eq_true,if_true,if_false]
    rcases t3c (idiv a2 a3 l0 l1) with ⟨y0,y1,h3⟩|⟨y0,y1,e3,n3,h3⟩
    ·simp only [h3,st0,kr0,st70,E3,Cn,Co,o7,o3,o2,o11,E5,kp0,cond_true,cond_false,zN,Bool.not_false,Bool.false_and,Bool.and_false,Bool.true_and,Bool.and_true,bne_self_eq_false,beq_self_eq_true,if_true,if_false]
     rcases t3c (idiv a4 a5 l0 l1) with ⟨z0,z1,h4⟩|⟨z0,z1,e4,n4,h4⟩
     ·simp only [h4,st0,kr0,st70,E3,Cn,Co,o7,o3,o2,o11,E5,kp0,cond_true,cond_false,zN,Bool.not_false,Bool.false_and,Bool.and_false,Bool.true_and,Bool.and_true,bne_self_eq_false,beq_self_eq_true,if_true,if_false]
     ·simp only [h4,stE n4,krE n4,st7E n4,El n4,E8 n4,E9 n4,kpn _ n4,st0,kr0,st70,E3,Cn,Co,o7,o3,o2,o11,E5,kp0,cond_true,cond_false,zN,Bool.not_false,Bool.false_and,Bool.and_false,Bool.true_and,Bool.and_true,bne_self_eq_false,beq_self_eq_true,if_true,if_false]
    ·simp only [h3,stE n3,krE n3,st7E n3,El n3,E8 n3,E9 n3,kpn _ n3,st0,kr0,st70,E3,Cn,Co,o7,o3,o2,o11,E5,kp0,cond_true,cond_false,zN,Bool.not_false,Bool.false_and,Bool.and_false,Bool.true_and,Bool.and_true,bne_self_eq_false,beq_self_eq_true,if_true,if_false]
   ·simp only [h2,stE n2,krE n2,st7E n2,El n2,E8 n2,E9 n2,kpn _ n2,st0,kr0,st70,E3,Cn,Co,o7,o3,o2,o11,E5,kp0,cond_true,cond_false,zN,Bool.not_false,Bool.false_and,Bool.and_false,Bool.true_and,Bool.and_true,bne_self_eq_false,beq_self_eq_true,if_true,if_false]
  ·simp only [h1,stE n1,krE n1,st7E n1,El n1,E8 n1,E9 n1,kpn _ n1,st0,kr0,st70,E3,Cn,Co,o7,o3,o2,o11,E5,kp0,cond_true,cond_false,zN,Bool.not_false,Bool.false_and,Bool.and_false,Bool.true_and,Bool.and_true,bne_self_eq_false,beq_self_eq_true,if_true,if_false]
 ·simp only [h0,stE n0,krE n0,st7E n0,El n0,E8 n0,E9 n0,kpn _ n0,st0,kr0,st70,E3,Cn,Co,o7,o3,o2,o11,E5,kp0,cond_true,cond_false,zN,Bool.not_false,Bool.false_and,Bool.and_false,Bool.true_and,Bool.and_true,bne_self_eq_false,beq_self_eq_true,if_true,if_false]
end
theorem Dq.ok:SOK Tryz.prog 36 (Dq.sp Dq):=by
 refine Dl (E:=⟨[(21,Ci.sp Ci),(64,Bv.sp Bv),(66,EH.sp Ar At),(69,Bp.sp Bp),(81,Cs.sp Cs)],[],[]⟩) (L:=[]) ⟨(Aa Ci.ok (Aa Bv.ok (Aa EH.ok (Aa Bp.ok (Aa Cs.ok Ac))))),Aq,Aj,Ap⟩ 40 Tryz.func36 (by decide) rfl Bf fun vs bl v bl' h=> ?_
 unfold Dq.sp at h
 split at h
 ·rename_i A7 AA AG AF AE AD
  simp only [zS,zP,true_and] at h
  obtain ⟨rfl,rfl⟩:=h
  refine ⟨?_,by simp [okV,Nat.blt],clo_spec 8 _ (by kernel_rfl),Bg (by kernel_rfl)⟩
  refine (Dq.run Ci Bv Ar At Bp Cs A7 AA AG AF AE AD).trans ?_
  refine (Dq.nat Ci Bv Ar At Bp Cs A7 AA AG AF AE AD _).trans ?_
  kernel_rfl
 ·cases h
end Go.Proofs.YtpejalpgficopaaGreatDoor.G
end
