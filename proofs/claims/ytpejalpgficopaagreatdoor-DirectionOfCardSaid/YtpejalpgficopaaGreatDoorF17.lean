/- A part of what the law's proof leans on. PACKED BY pack.py of this repo. -/
import Derived.Test.YtpejalpgficopaaGreatDoorF16
import Derived.Test.YtpejalpgficopaaGreatDoorRows
set_option linter.unusedVariables false
set_option linter.unusedSimpArgs false
set_option linter.unusedSectionVars false
set_option linter.defProp false
set_option maxRecDepth 100000
open Go.IntKind (i64 u64 u32)
section
namespace Go.Proofs.YtpejalpgficopaaGreatDoor.G
open Go Go.Proofs Go.RowKit RX
section
variable {R:Type} (s0_0:Int) (AC:Int) (AB:Int) (a2:Int)
def Ao.K (k:Int×Int×Int→R):R:=
 bif s0_0==0 then k (AC,AB,a2) else k (AC,AB,s0_0)
theorem Ao.run:xfn Tryz.prog ⟨[],[],[]⟩ [] 40 Tryz.f85 [.pointer (some ⟨0,0,none⟩),.agg ⟨[.int .i64 AC,.int .i64 AB]⟩,.int .i64 a2] [.cs [.int .i64 s0_0] 106]=Ao.K s0_0 AC AB a2 (fun r=>some (.agg ⟨[.int .i64 r.1,.int .i64 r.2.1]⟩,[.cs [.int .i64 r.2.2] 106])):=by kernel_rfl
def Ao:Int×Int×Int:=Ao.K s0_0 AC AB a2 id
theorem Ao.nat (k:Int×Int×Int→R):Ao.K s0_0 AC AB a2 k=k (Ao.K s0_0 AC AB a2 id):=by
 simp only [Ao.K,acond k,id_eq]
end
theorem JD (s a b e:Int):Ao s a b e=(a,b,kp s e):=by
 simp only [Ao,Ao.K,id_eq,kp]
 cases s==0<;>rfl
theorem Ao.ok:SOK Tryz.prog 85 (Ao.sp Ao):=by
 refine Dl (E:=⟨[],[],[]⟩) (L:=[]) ⟨Ac,Aq,Aj,Ap⟩ 40 Tryz.func85 (by decide) rfl Bf fun vs bl v bl' h=> ?_
 unfold Ao.sp at h
 split at h
 ·rename_i AC AB a2 s0_0
  simp only [zS,zP,true_and] at h
  obtain ⟨rfl,rfl⟩:=h
  refine ⟨?_,by simp [okV,Nat.blt],clo_spec 8 _ (by kernel_rfl),Bg (by kernel_rfl)⟩
  refine (Ao.run s0_0 AC AB a2).trans ?_
  refine (Ao.nat s0_0 AC AB a2 _).trans ?_
  kernel_rfl
 ·cases h
section
variable {R:Type} (B7:Int→Int→(Bool)) (A7:Int) (AA:Int) (AC:Int) (AB:Int)
def Br.K (k:(Bool)→R):R:=
 let t0:=B7 A7 AA
 bif t0 then
 let t1:=B7 AC AB
 k (t1) else k (false)
theorem Br.run:xfn Tryz.prog ⟨[(76,Ad.sp B7)],[],[]⟩ [] 40 Tryz.f82 [.agg ⟨[.int .i64 A7,.int .i64 AA]⟩,.agg ⟨[.int .i64 AC,.int .i64 AB]⟩] []=Br.K B7 A7 AA AC AB (fun r=>some (.bool r,[])):=by kernel_rfl
def Br:Bool:=Br.K Ad A7 AA AC AB id
theorem Br.nat (k:(Bool)→R):Br.K B7 A7 AA AC AB k=k (Br.K B7 A7 AA AC AB id):=by
 simp only [Br.K,acond k,id_eq]
theorem Br.eq (a b c d:Int):Br a b c d=(V a b&&V c d):=by
 simp only [Br,Br.K,id_eq,Ad.eq]
 cases V a b<;>simp
end
theorem Br.ok:SOK Tryz.prog 82 (Br.sp Br):=by
 refine Dl (E:=⟨[(76,Ad.sp Ad)],[],[]⟩) (L:=[]) ⟨(Aa Ad.ok Ac),Aq,Aj,Ap⟩ 40 Tryz.func82 (by decide) rfl Bf fun vs bl v bl' h=> ?_
 unfold Br.sp at h
 split at h
 ·rename_i A7 AA AC AB
  simp only [zS,zP,true_and] at h
  obtain ⟨rfl,rfl⟩:=h
  refine ⟨?_,by simp [okV,Nat.blt],clo_spec 8 _ (by kernel_rfl),Bg (by kernel_rfl)⟩
  refine (Br.run Ad A7 AA AC AB).trans ?_
  refine (Br.nat Ad A7 AA AC AB _).trans ?_
  kernel_rfl
 ·cases h
section
variable {R:Type} (B7:Int→Int→(Bool)) (a0:Int) (a1:Int)
def An.K (k:Int×Int×Int→R):R:=
 let t0:=B7 a0 a1
 bif !t0 then k (0,0,3) else k (a0,a1,0)
theorem An.run:xfn Tryz.prog ⟨[(76,Ad.sp B7)],[],[]⟩ [] 40 Tryz.f171 [.int .i64 a0,.int .i64 a1] []=An.K B7 a0 a1 (fun r=>some (.tuple ⟨[.agg ⟨[.int .i64 r.1,.int .i64 r.2.1]⟩,.int .i64 r.2.2]⟩,[])):=by kernel_rfl
def An:Int×Int×Int:=An.K Ad a0 a1 id
theorem An.nat (k:Int×Int×Int→R):An.K B7 a0 a1 k=k (An.K B7 a0 a1 id):=by
 simp only [An.K,acond k,id_eq]
theorem An.eq (a b:Int):An a b=chk a b:=by
 simp only [An,An.K,id_eq,Ad.eq,chk]
 cases V a b<;>simp
end
theorem An.ok:SOK Tryz.prog 171 (An.sp An):=by
 refine Dl (E:=⟨[(76,Ad.sp Ad)],[],[]⟩) (L:=[]) ⟨(Aa Ad.ok Ac),Aq,Aj,Ap⟩ 40 Tryz.func171 (by decide) rfl Bf fun vs bl v bl' h=> ?_
 unfold An.sp at h
 split at h
 ·rename_i a0 a1
  simp only [zS,zP,true_and] at h
  obtain ⟨rfl,rfl⟩:=h
  refine ⟨?_,by simp [okV,Nat.blt],clo_spec 8 _ (by kernel_rfl),Bg (by kernel_rfl)⟩
  refine (An.run Ad a0 a1).trans ?_
  refine (An.nat Ad a0 a1 _).trans ?_
  kernel_rfl
 ·cases h
section
variable {R:Type} (BW:Int→Int→Int→Int→(Bool)) (B8:Int→Int→(Int×Int×Int)) (A7:Int) (AA:Int) (AC:Int) (AB:Int)
def Ds.K (k:Int×Int×Int→R):R:=
 let t0:=BW A7 AA AC AB
 bif !t0 then k (0,0,1) else
 let t1:=B8 (i64.wrap (A7+AC)) (i64.wrap (AA+AB))
 k (t1.1,t1.2.1,t1.2.2)
theorem Ds.run:xfn Tryz.prog ⟨[(82,Br.sp BW),(171,An.sp B8)],[],[]⟩ [] 40 Tryz.f125 [.agg ⟨[.int .i64 A7,.int .i64 AA]⟩,.agg ⟨[.int .i64 AC,.int .i64 AB]⟩] []=Ds.K BW B8 A7 AA AC AB (fun r=>some (.tuple ⟨[.agg ⟨[.int .i64 r.1,.int .i64 r.2.1]⟩,.int .i64 r.2.2]⟩,[])):=by kernel_rfl
def Ds:Int×Int×Int:=Ds.K Br An A7 AA AC AB id
theorem Ds.nat (k:Int×Int×Int→R):Ds.K BW B8 A7 AA AC AB k=k (Ds.K BW B8 A7 AA AC AB id):=by
 simp only [Ds.K,acond k,id_eq]
theorem Ds.eq (a b c d:Int):Ds a b c d=iadd a b c d:=by
 simp only [Ds,Ds.K,id_eq,Br.eq,iadd]
 cases h:V a b&&V c d with
 |false=>simp
 | true=>
  have h':=h
  rw [zB] at h'
  have:=G1.1 h'.1
  have:=G1.1 h'.2
  rw [w64 (by omega) (by omega),w64 (by omega) (by omega),An.eq]
  simp
end
theorem Ds.ok:SOK Tryz.prog 125 (Ds.sp Ds):=by
 refine Dl (E:=⟨[(82,Br.sp Br),(171,An.sp An)],[],[]⟩) (L:=[]) ⟨(Aa Br.ok (Aa An.ok Ac)),Aq,Aj,Ap⟩ 40 Tryz.func125 (by decide) rfl Bf fun vs bl v bl' h=> ?_
 unfold Ds.sp at h
 split at h
 ·rename_i A7 AA AC AB
  simp only [zS,zP,true_and] at h
  obtain ⟨rfl,rfl⟩:=h
  refine ⟨?_,by simp [okV,Nat.blt],clo_spec 8 _ (by kernel_rfl),Bg (by kernel_rfl)⟩
  refine (Ds.run Br An A7 AA AC AB).trans ?_
  refine (Ds.nat Br An A7 AA AC AB _).trans ?_
  kernel_rfl
 ·cases h
section
variable {R:Type} (B9:Int→Int→Int→Int→(Int×Int×Int)) (DC:Int→Int→Int→Int→(Int×Int×Int)) (s0_0:Int) (AC:Int) (AB:Int) (AV:Int) (AU:Int)
def Bl.K (k:Int×Int×Int→R):R:=
 let t0:=DC AC AB AV AU
 let t1:=B9 s0_0 t0.1 t0.2.1 t0.2.2
 k (t1.1,t1.2.1,t1.2.2)
theorem Bl.run:xfn Tryz.prog ⟨[(85,Ao.sp B9),(125,Ds.sp DC)],[],[]⟩ [] 40 Tryz.f72 [.pointer (some ⟨0,0,none⟩),.agg ⟨[.int .i64 AC,.int .i64 AB]⟩,.agg ⟨[.int .i64 AV,.int .i64 AU]⟩] [.cs [.int .i64 s0_0] 106]=Bl.K B9 DC s0_0 AC AB AV AU (fun r=>some (.agg ⟨[.int .i64 r.1,.int .i64 r.2.1]⟩,[.cs [.int .i64 r.2.2] 106])):=by kernel_rfl
def Bl:Int×Int×Int:=Bl.K Ao Ds s0_0 AC AB AV AU id
theorem Bl.nat (k:Int×Int×Int→R):Bl.K B9 DC s0_0 AC AB AV AU k=k (Bl.K B9 DC s0_0 AC AB AV AU id):=by
 simp only [Bl.K,acond k,id_eq]
theorem Bl.eq (s a b c d:Int):Bl s a b c d=kr s (iadd a b c d):=by
 simp only [Bl,Bl.K,id_eq,Ds.eq,JD,kr]
end
theorem Bl.ok:SOK Tryz.prog 72 (Bl.sp Bl):=by
 refine Dl (E:=⟨[(85,Ao.sp Ao),(125,Ds.sp Ds)],[],[]⟩) (L:=[]) ⟨(Aa Ao.ok (Aa Ds.ok Ac)),Aq,Aj,Ap⟩ 40 Tryz.func72 (by decide) rfl Bf fun vs bl v bl' h=> ?_
 unfold Bl.sp at h
 split at h
 ·rename_i AC AB AV AU s0_0
  simp only [zS,zP,true_and] at h
  obtain ⟨rfl,rfl⟩:=h
  refine ⟨?_,by simp [okV,Nat.blt],clo_spec 8 _ (by kernel_rfl),Bg (by kernel_rfl)⟩
  refine (Bl.run Ao Ds s0_0 AC AB AV AU).trans ?_
  refine (Bl.nat Ao Ds s0_0 AC AB AV AU _).trans ?_
  kernel_rfl
 ·cases h
section
variable {R:Type} (s0_0:Int) (AC:Int) (AB:Int) (AM:Int) (AL:Int) (AQ:Int) (AP:Int)
def Bj.K (k:Int×Int×Int×Int×Int×Int×Int×Int→R):R:=
 bif s0_0 !=0 then k (0,0,0,0,0,0,s0_0,s0_0) else k (AC,AB,AM,AL,AQ,AP,0,s0_0)
theorem Bj.run:xfn Tryz.prog ⟨[],[],[]⟩ [] 40 Tryz.f73 [.pointer (some ⟨0,0,none⟩),.agg ⟨[.int .i64 AC,.int .i64 AB,.int .i64 AM,.int .i64 AL,.int .i64 AQ,.int .i64 AP]⟩] [.cs [.int .i64 s0_0] 106]=Bj.K s0_0 AC AB AM AL AQ AP (fun r=>some (.tuple ⟨[.agg ⟨[.int .i64 r.1,.int .i64 r.2.1,.int .i64 r.2.2.1,.int .i64 r.2.2.2.1,.int .i64 r.2.2.2.2.1,.int .i64 r.2.2.2.2.2.1]⟩,.int .i64 r.2.2.2.2.2.2.1]⟩,[.cs [.int .i64 r.2.2.2.2.2.2.2] 106])):=by kernel_rfl
def Bj:Int×Int×Int×Int×Int×Int×Int×Int:=Bj.K s0_0 AC AB AM AL AQ AP id
theorem Bj.nat (k:Int×Int×Int×Int×Int×Int×Int×Int→R):Bj.K s0_0 AC AB AM AL AQ AP k=k (Bj.K s0_0 AC AB AM AL AQ AP id):=by
 simp only [Bj.K,acond k,id_eq]
end
theorem Bj.ok:SOK Tryz.prog 73 (Bj.sp Bj):=by
 refine Dl (E:=⟨[],[],[]⟩) (L:=[]) ⟨Ac,Aq,Aj,Ap⟩ 40 Tryz.func73 (by decide) rfl Bf fun vs bl v bl' h=> ?_
 unfold Bj.sp at h
 split at h
 ·rename_i AC AB AM AL AQ AP s0_0
  simp only [zS,zP,true_and] at h
  obtain ⟨rfl,rfl⟩:=h
  refine ⟨?_,by simp [okV,Nat.blt],clo_spec 8 _ (by kernel_rfl),Bg (by kernel_rfl)⟩
  refine (Bj.run s0_0 AC AB AM AL AQ AP).trans ?_
  refine (Bj.nat s0_0 AC AB AM AL AQ AP _).trans ?_
  kernel_rfl
 ·cases h
section
variable {R:Type} (BW:Int→Int→Int→Int→(Bool)) (B8:Int→Int→(Int×Int×Int)) (A7:Int) (AA:Int) (AC:Int) (AB:Int)
def Dr.K (k:Int×Int×Int→R):R:=
 let t0:=BW A7 AA AC AB
 bif !t0 then k (0,0,1) else
 let t1:=B8 (i64.wrap (A7-AB)) (i64.wrap (AA-AC))
 k (t1.1,t1.2.1,t1.2.2)
theorem Dr.run:xfn Tryz.prog ⟨[(82,Br.sp BW),(171,An.sp B8)],[],[]⟩ [] 40 Tryz.f126 [.agg ⟨[.int .i64 A7,.int .i64 AA]⟩,.agg ⟨[.int .i64 AC,.int .i64 AB]⟩] []=Dr.K BW B8 A7 AA AC AB (fun r=>some (.tuple ⟨[.agg ⟨[.int .i64 r.1,.int .i64 r.2.1]⟩,.int .i64 r.2.2]⟩,[])):=by kernel_rfl
def Dr:Int×Int×Int:=Dr.K Br An A7 AA AC AB id
theorem Dr.nat (k:Int×Int×Int→R):Dr.K BW B8 A7 AA AC AB k=k (Dr.K BW B8 A7 AA AC AB id):=by
 simp only [Dr.K,acond k,id_eq]
theorem Dr.eq (a b c d:Int):Dr a b c d=isub a b c d:=by
 simp only [Dr,Dr.K,id_eq,Br.eq,isub]
 cases h:V a b&&V c d with
 |false=>simp
 | true=>
  have h':=h
  rw [zB] at h'
  have:=G1.1 h'.1
  have:=G1.1 h'.2
  rw [w64 (by omega) (by omega),w64 (by omega) (by omega),An.eq]
  simp
end
theorem Dr.ok:SOK Tryz.prog 126 (Dr.sp Dr):=by
 refine Dl (E:=⟨[(82,Br.sp Br),(171,An.sp An)],[],[]⟩) (L:=[]) ⟨(Aa Br.ok (Aa An.ok Ac)),Aq,Aj,Ap⟩ 40 Tryz.func126 (by decide) rfl Bf fun vs bl v bl' h=> ?_
 unfold Dr.sp at h
 split at h
 ·rename_i A7 AA AC AB
  simp only [zS,zP,true_and] at h
  obtain ⟨rfl,rfl⟩:=h
  refine ⟨?_,by simp [okV,Nat.blt],clo_spec 8 _ (by kernel_rfl),Bg (by kernel_rfl)⟩
  refine (Dr.run Br An A7 AA AC AB).trans ?_
  refine (Dr.nat Br An A7 AA AC AB _).trans ?_
  kernel_rfl
 ·cases h
section
variable {R:Type} (B9:Int→Int→Int→Int→(Int×Int×Int)) (DA:Int→Int→Int→Int→(Int×Int×Int)) (s0_0:Int) (AC:Int) (AB:Int) (AV:Int) (AU:Int)
def Cf.K (k:Int×Int×Int→R):R:=
 let t0:=DA AC AB AV AU
 let t1:=B9 s0_0 t0.1 t0.2.1 t0.2.2
 k (t1.1,t1.2.1,t1.2.2)
theorem Cf.run:xfn Tryz.prog ⟨[(85,Ao.sp B9),(126,Dr.sp DA)],[],[]⟩ [] 40 Tryz.f74 [.pointer (some ⟨0,0,none⟩),.agg ⟨[.int .i64 AC,.int .i64 AB]⟩,.agg ⟨[.int .i64 AV,.int .i64 AU]⟩] [.cs [.int .i64 s0_0] 106]=Cf.K B9 DA s0_0 AC AB AV AU (fun r=>some (.agg ⟨[.int .i64 r.1,.int .i64 r.2.1]⟩,[.cs [.int .i64 r.2.2] 106])):=by kernel_rfl
def Cf:Int×Int×Int:=Cf.K Ao Dr s0_0 AC AB AV AU id
theorem Cf.nat (k:Int×Int×Int→R):Cf.K B9 DA s0_0 AC AB AV AU k=k (Cf.K B9 DA s0_0 AC AB AV AU id):=by
 simp only [Cf.K,acond k,id_eq]
theorem Cf.eq (s a b c d:Int):Cf s a b c d=kr s (isub a b c d):=by
 simp only [Cf,Cf.K,id_eq,Dr.eq,JD,kr]
end
theorem Cf.ok:SOK Tryz.prog 74 (Cf.sp Cf):=by
 refine Dl (E:=⟨[(85,Ao.sp Ao),(126,Dr.sp Dr)],[],[]⟩) (L:=[]) ⟨(Aa Ao.ok (Aa Dr.ok Ac)),Aq,Aj,Ap⟩ 40 Tryz.func74 (by decide) rfl Bf fun vs bl v bl' h=> ?_
 unfold Cf.sp at h
 split at h
 ·rename_i AC AB AV AU s0_0
  simp only [zS,zP,true_and] at h
  obtain ⟨rfl,rfl⟩:=h
  refine ⟨?_,by simp [okV,Nat.blt],clo_spec 8 _ (by kernel_rfl),Bg (by kernel_rfl)⟩
  refine (Cf.run Ao Dr s0_0 AC AB AV AU).trans ?_
  refine (Cf.nat Ao Dr s0_0 AC AB AV AU _).trans ?_
  kernel_rfl
 ·cases h
section
variable {R:Type} (a0:Int) (a1:Int)
def Ag.K (k:(Int)→Option R):Option R:=
 bif decide (a1<0) then bif i64.wrap (0-a1) !=0 then bif decide (i64.wrap (i64.wrap ((i64.wrap (0-a0)).tdiv (i64.wrap (0-a1)))*i64.wrap (0-a1))>i64.wrap (0-a0)) then k (i64.wrap (i64.wrap ((i64.wrap (0-a0)).tdiv (i64.wrap (0-a1)))-1)) else k (i64.wrap ((i64.wrap (0-a0)).tdiv (i64.wrap (0-a1)))) else none else bif a1 !=0 then bif decide (i64.wrap (i64.wrap (a0.tdiv a1)*a1)>a0) then k (i64.wrap (i64.wrap (a0.tdiv a1)-1)) else k (i64.wrap (a0.tdiv a1)) else none
theorem Ag.run:xfn Tryz.prog ⟨[],[],[]⟩ [] 40 Tryz.f146 [.int .i64 a0,.int .i64 a1] []=Ag.K a0 a1 (fun r=>some (.int .i64 r,[])):=by kernel_rfl
def Ag.o:Option (Int):=Ag.K a0 a1 some
def Ag:Int:=(Ag.o a0 a1).getD default
theorem Ag.nat (k:(Int)→Option R):Ag.K a0 a1 k=(Ag.K a0 a1 some).bind k:=by
 simp only [Ag.K,bcond,Option.bind_some,Option.bind_none]
end
theorem IN {a b:Int} (hb:0<b) (h1: -4611686018427387904≤a) (h2:a≤4611686018427387904):(bif decide (i64.wrap (i64.wrap (a.tdiv b)*b)>a) then some (i64.wrap (i64.wrap (a.tdiv b)-1)) else some (i64.wrap (a.tdiv b)))=some (a/b):=by
 have hq:=Gs hb h1 h2
 have hd:a.tdiv b=a/b+if 0≤a∨b∣a then 0 else b.sign:=Int.tdiv_eq_ediv
 rw [Int.sign_eq_one_of_pos hb] at hd
 have hs:=MZ (x:=a) hb
 by_cases hv:0≤a∨b∣a
 ·simp only [hv,if_true,Int.add_zero] at hd
  rw [hd,w64 (n:=a/b) (by omega) (by omega)]
  by_cases ha:0≤a
  ·have:0≤a/b*b:=Int.mul_nonneg (Pz hb ha) (by omega)
   rw [w64 (n:=a/b*b) (by omega) (by omega),decide_eq_false (by omega)]
   rfl
  ·have hv':b∣a:=by rcases hv with h|h; exact absurd h ha; exact h
   have:a/b*b=a:=Int.ediv_mul_cancel hv'
   rw [this,w64 (n:=a) (by omega) (by omega),decide_eq_false (by omega)]
   rfl
 ·simp only [hv,if_false] at hd
  have ha:a<0:=by omega
  have h0:a/b<0:=by
   have:=hs.2
   by_cases h:a/b<0
   ·exact h
   ·have:0≤a/b*b:=Int.mul_nonneg (by omega) (by omega)
    omega
  have e:(a/b+1)*b=a/b*b+b:=by rw [Int.add_mul,Int.one_mul]
  have h3:(a/b+1)*b≤0:=by
   have:=Int.mul_nonneg (a:= -(a/b+1)) (b:=b) (by omega) (by omega)
   rw [Int.neg_mul] at this
   omega
  rw [hd,w64 (n:=a/b+1) (by omega) (by omega),w64 (n:=(a/b+1)*b) (by omega) (by omega),decide_eq_true (by omega),cond_true,Int.add_sub_cancel,w64 (by omega) (by omega)]
theorem Ag.eq {a b:Int} (hb:0<b) (h1: -4611686018427387904≤a) (h2:a≤4611686018427387904):Ag a b=a/b:=by
 have hb0:(b !=0)=true:=by simp; omega
 have h3:¬b<0:=by omega
 simp only [Ag,Ag.o,Ag.K,hb0,h3,decide_false,cond_false,cond_true,IN hb h1 h2]
 rfl
theorem Ag.eqn {a b:Int} (hb:b<0) (hb': -4611686018427387904≤b) (h1: -4611686018427387904≤a) (h2:a≤4611686018427387904):Ag a b= -a/ -b:=by
 have hb0:(-b !=0)=true:=by simp; omega
 have w1:i64.wrap (0-a)= -a:=by rw [Int.zero_sub]; exact w64 (by omega) (by omega)
 have w2:i64.wrap (0-b)= -b:=by rw [Int.zero_sub]; exact w64 (by omega) (by omega)
 simp only [Ag,Ag.o,Ag.K,w1,w2,hb0,hb,decide_true,cond_false,cond_true,IN (a:= -a) (b:= -b) (by omega) (by omega) (by omega)]
 rfl
theorem Ag.ok:SOK Tryz.prog 146 (Ag.sp Ag):=by
 refine Dl (E:=⟨[],[],[]⟩) (L:=[]) ⟨Ac,Aq,Aj,Ap⟩ 40 Tryz.func146 (by decide) rfl Bf fun vs bl v bl' h=> ?_
 unfold Ag.sp at h
 split at h
 ·rename_i a0 a1
  simp only [zS,zP] at h
  obtain ⟨hp,rfl,rfl⟩:=h
  have hr:=Ag.run a0 a1
  rw [Ag.nat] at hr
  obtain ⟨r,h2⟩:=Option.isSome_iff_exists.1 (by (simp only [Ag.o,Ag.K,Ge,Option.isSome_some,Fx]; revert hp; cases decide (a1<0)<;>simp):(Ag.o a0 a1).isSome=true)
  have h3:Ag a0 a1=r:=by unfold Ag; rw [h2]; rfl
  have h4:Ag.K a0 a1 some=some r:=h2
  rw [h4,Option.bind_some] at hr
  rw [h3]
  exact ⟨hr,by simp [okV,Nat.blt],clo_spec 8 _ (by kernel_rfl),Bg (by kernel_rfl)⟩
 ·cases h
section
variable {R:Type} (BB:Int→Int→(Int)) (a0:Int) (a1:Int)
def Am.K (k:(Int)→Option R):Option R:=
 bif bif decide (a1<0) then i64.wrap (-a1) !=0 else a1 !=0 then
 let t0:=BB (i64.wrap (0-a0)) a1
 k (i64.wrap (0-t0)) else none
theorem Am.run:xfn Tryz.prog ⟨[(146,Ag.sp BB)],[],[]⟩ [] 40 Tryz.f147 [.int .i64 a0,.int .i64 a1] []=Am.K BB a0 a1 (fun r=>some (.int .i64 r,[])):=by kernel_rfl
def Am.o:Option (Int):=Am.K Ag a0 a1 some
def Am:Int:=(Am.o a0 a1).getD default
theorem Am.nat (k:(Int)→Option R):Am.K BB a0 a1 k=(Am.K BB a0 a1 some).bind k:=by
 simp only [Am.K,bcond,Option.bind_some,Option.bind_none]
theorem Am.eq {a b:Int} (hb:0<b) (h1: -4611686018427387904≤a) (h2:a≤4611686018427387904):Am a b=cl a b:=by
 have hb0:(b !=0)=true:=by simp; omega
 have h3:¬b<0:=by omega
 have hq:=Gs (a:= -a) hb (by omega) (by omega)
 simp only [Am,Am.o,Am.K,hb0,h3,decide_false,cond_true,cond_false,Option.getD_some,Int.zero_sub]
 rw [w64 (n:= -a) (by omega) (by omega),Ag.eq hb (by omega) (by omega),w64 (by omega) (by omega)]
 rfl
end
theorem Am.eqn {a b:Int} (hb:b<0) (hb': -4611686018427387904≤b) (h1: -4611686018427387904≤a) (h2:a≤4611686018427387904):Am a b=cl (-a) (-b):=by
 have hw:i64.wrap (-b)= -b:=w64 (by omega) (by omega)
 have hb0:(-b !=0)=true:=by simp; omega
 have hq:=Gs (a:=a) (b:= -b) (by omega) (by omega) (by omega)
 simp only [Am,Am.o,Am.K,hb,decide_true,hw,hb0,cond_true,Option.getD_some,Int.zero_sub]
 rw [w64 (n:= -a) (by omega) (by omega),Ag.eqn hb (by omega) (by omega) (by omega),Int.neg_neg,w64 (by omega) (by omega)]
 simp only [cl,Int.neg_neg]
theorem Am.ok:SOK Tryz.prog 147 (Am.sp Am):=by
 refine Dl (E:=⟨[(146,Ag.sp Ag)],[],[]⟩) (L:=[]) ⟨(Aa Ag.ok Ac),Aq,Aj,Ap⟩ 40 Tryz.func147 (by decide) rfl Bf fun vs bl v bl' h=> ?_
 unfold Am.sp at h
 split at h
 ·rename_i a0 a1
  simp only [zS,zP] at h
  obtain ⟨hp,rfl,rfl⟩:=h
  have hr:=Am.run Ag a0 a1
  rw [Am.nat] at hr
  obtain ⟨r,h2⟩:=Option.isSome_iff_exists.1 (by simp [Am.o,Am.K,Ge,Fx,hp]:(Am.o a0 a1).isSome=true)
  have h3:Am a0 a1=r:=by unfold Am; rw [h2]; rfl
  have h4:Am.K Ag a0 a1 some=some r:=h2
  rw [h4,Option.bind_some] at hr
  rw [h3]
  exact ⟨hr,by simp [okV,Nat.blt],clo_spec 8 _ (by kernel_rfl),Bg (by kernel_rfl)⟩
 ·cases h
section
variable {R:Type} (B7:Int→Int→(Bool)) (BB:Int→Int→(Int)) (BN:Int→Int→(Int)) (B8:Int→Int→(Int×Int×Int)) (A7:Int) (AA:Int)
def Cv.K (k:Int×Int×Int→R):R:=
 let t0:=B7 A7 AA
 bif !t0 then k (0,0,1) else bif decide (A7≤0) then bif decide (AA≥0) then
 let t1:=BB 0 16777216
 let t2:=BN (if i64.wrap (AA*AA)>i64.wrap (A7*A7) then i64.wrap (AA*AA) else i64.wrap (A7*A7)) 16777216
 let t3:=B8 t1 t2
 k (t3.1,t3.2.1,t3.2.2) else
 let t4:=BB (if i64.wrap (AA*AA)<i64.wrap (A7*A7) then i64.wrap (AA*AA) else i64.wrap (A7*A7)) 16777216
 let t5:=BN (if i64.wrap (AA*AA)>i64.wrap (A7*A7) then i64.wrap (AA*AA) else i64.wrap (A7*A7)) 16777216
 let t6:=B8 t4 t5
 k (t6.1,t6.2.1,t6.2.2) else
 let t7:=BB (if i64.wrap (AA*AA)<i64.wrap (A7*A7) then i64.wrap (AA*AA) else i64.wrap (A7*A7)) 16777216
 let t8:=BN (if i64.wrap (AA*AA)>i64.wrap (A7*A7) then i64.wrap (AA*AA) else i64.wrap (A7*A7)) 16777216
 let t9:=B8 t7 t8
 k (t9.1,t9.2.1,t9.2.2)
theorem Cv.run:xfn Tryz.prog ⟨[(76,Ad.sp B7),(146,Ag.sp BB),(147,Am.sp BN),(171,An.sp B8)],[],[]⟩ [] 40 Tryz.f140 [.agg ⟨[.int .i64 A7,.int .i64 AA]⟩] []=Cv.K B7 BB BN B8 A7 AA (fun r=>some (.tuple ⟨[.agg ⟨[.int .i64 r.1,.int .i64 r.2.1]⟩,.int .i64 r.2.2]⟩,[])):=by kernel_rfl
def Cv:Int×Int×Int:=Cv.K Ad Ag Am An A7 AA id
theorem Cv.nat (k:Int×Int×Int→R):Cv.K B7 BB BN B8 A7 AA k=k (Cv.K B7 BB BN B8 A7 AA id):=by
 simp only [Cv.K,acond k,id_eq]
theorem Cv.eq (a b:Int):Cv a b=isq a b:=by
 simp only [Cv,Cv.K,id_eq,Ad.eq,isq,mnE,mxE]
 cases h1:V a b with
 |false=>simp
 | true=>
  have:=G1.1 h1
  have e1:=I7 (x:=a) (y:=a) (by omega) (by omega) (by omega) (by omega)
  have e4:=I7 (x:=b) (y:=b) (by omega) (by omega) (by omega) (by omega)
  have s1:=G3 a
  have s2:=G3 b
  have w1:i64.wrap (a*a)=a*a:=w64 (by omega) (by omega)
  have w4:i64.wrap (b*b)=b*b:=w64 (by omega) (by omega)
  have hk:(0:Int)<16777216:=by omega
  have r1:Ag (min (a*a) (b*b)) 16777216=min (a*a) (b*b)/16777216:=Ag.eq hk (by omega) (by omega)
  have r2:Am (max (a*a) (b*b)) 16777216=cl (max (a*a) (b*b)) 16777216:=Am.eq hk (by omega) (by omega)
  have r3:Ag 0 16777216=0/16777216:=Ag.eq hk (by omega) (by omega)
  simp only [w1,w4,zN,cond_false,cond_true,r1,r2,r3,An.eq]
  by_cases h2:a≤0<;>by_cases h3:b≥0<;>simp [h2,h3]
end
theorem Cv.ok:SOK Tryz.prog 140 (Cv.sp Cv):=by
 refine Dl (E:=⟨[(76,Ad.sp Ad),(146,Ag.sp Ag),(147,Am.sp Am),(171,An.sp An)],[],[]⟩) (L:=[]) ⟨(Aa Ad.ok (Aa Ag.ok (Aa Am.ok (Aa An.ok Ac)))),Aq,Aj,Ap⟩ 40 Tryz.func140 (by decide) rfl Bf fun vs bl v bl' h=> ?_
 unfold Cv.sp at h
 split at h
 ·rename_i A7 AA
  simp only [zS,zP,true_and] at h
  obtain ⟨rfl,rfl⟩:=h
  refine ⟨?_,by simp [okV,Nat.blt],clo_spec 8 _ (by kernel_rfl),Bg (by kernel_rfl)⟩
  refine (Cv.run Ad Ag Am An A7 AA).trans ?_
  refine (Cv.nat Ad Ag Am An A7 AA _).trans ?_
  kernel_rfl
 ·cases h
section
variable {R:Type} (B9:Int→Int→Int→Int→(Int×Int×Int)) (D0:Int→Int→(Int×Int×Int)) (s0_0:Int) (AC:Int) (AB:Int)
def Ba.K (k:Int×Int×Int→R):R:=
 let t0:=D0 AC AB
 let t1:=B9 s0_0 t0.1 t0.2.1 t0.2.2
 k (t1.1,t1.2.1,t1.2.2)
theorem Ba.run:xfn Tryz.prog ⟨[(85,Ao.sp B9),(140,Cv.sp D0)],[],[]⟩ [] 40 Tryz.f89 [.pointer (some ⟨0,0,none⟩),.agg ⟨[.int .i64 AC,.int .i64 AB]⟩] [.cs [.int .i64 s0_0] 106]=Ba.K B9 D0 s0_0 AC AB (fun r=>some (.agg ⟨[.int .i64 r.1,.int .i64 r.2.1]⟩,[.cs [.int .i64 r.2.2] 106])):=by kernel_rfl
def Ba:Int×Int×Int:=Ba.K Ao Cv s0_0 AC AB id
theorem Ba.nat (k:Int×Int×Int→R):Ba.K B9 D0 s0_0 AC AB k=k (Ba.K B9 D0 s0_0 AC AB id):=by
 simp only [Ba.K,acond k,id_eq]
theorem Ba.eq (s a b:Int):Ba s a b=kr s (isq a b):=by
 simp only [Ba,Ba.K,id_eq,Cv.eq,JD,kr]
end
theorem Ba.ok:SOK Tryz.prog 89 (Ba.sp Ba):=by
 refine Dl (E:=⟨[(85,Ao.sp Ao),(140,Cv.sp Cv)],[],[]⟩) (L:=[]) ⟨(Aa Ao.ok (Aa Cv.ok Ac)),Aq,Aj,Ap⟩ 40 Tryz.func89 (by decide) rfl Bf fun vs bl v bl' h=> ?_
 unfold Ba.sp at h
 split at h
 ·rename_i AC AB s0_0
  simp only [zS,zP,true_and] at h
  obtain ⟨rfl,rfl⟩:=h
  refine ⟨?_,by simp [okV,Nat.blt],clo_spec 8 _ (by kernel_rfl),Bg (by kernel_rfl)⟩
  refine (Ba.run Ao Cv s0_0 AC AB).trans ?_
  refine (Ba.nat Ao Cv s0_0 AC AB _).trans ?_
  kernel_rfl
 ·cases h
def Dw.K {R:Type} (k:Int×Int→R):R:=
 k (16777216,16777216)
theorem Dw.run:xfn Tryz.prog ⟨[],[],[]⟩ [] 40 Tryz.f90 [] []=Dw.K (fun r=>some (.agg ⟨[.int .i64 r.1,.int .i64 r.2]⟩,[])):=by kernel_rfl
def Dw:Int×Int:=Dw.K id
theorem Dw.nat {R:Type} (k:Int×Int→R):Dw.K k=k (Dw.K id):=by
 simp only [Dw.K,acond k,id_eq]
theorem Dw.ok:SOK Tryz.prog 90 (Dw.sp Dw):=by
 refine Dl (E:=⟨[],[],[]⟩) (L:=[]) ⟨Ac,Aq,Aj,Ap⟩ 40 Tryz.func90 (by decide) rfl Bf fun vs bl v bl' h=> ?_
 unfold Dw.sp at h
 split at h
 ·simp only [zS,zP,true_and] at h
  obtain ⟨rfl,rfl⟩:=h
  refine ⟨?_,by simp [okV,Nat.blt],clo_spec 8 _ (by kernel_rfl),Bg (by kernel_rfl)⟩
  refine (Dw.run).trans ?_
  refine (Dw.nat _).trans ?_
  kernel_rfl
 ·cases h
section
variable {R:Type} (BW:Int→Int→Int→Int→(Bool)) (BB:Int→Int→(Int)) (BN:Int→Int→(Int)) (B8:Int→Int→(Int×Int×Int)) (A7:Int) (AA:Int) (AC:Int) (AB:Int)
def Cc.K (k:Int×Int×Int→Option R):Option R:=
 let t0:=BW A7 AA AC AB
 bif !t0 then k (0,0,1) else bif decide (AC≤0) then bif decide (AB≥0) then k (0,0,10) else bif bif decide (AC<0) then i64.wrap (-AC) !=0 else AC !=0 then bif bif decide (AB<0) then i64.wrap (-AB) !=0 else AB !=0 then bif bif decide (AC<0) then i64.wrap (-AC) !=0 else AC !=0 then bif bif decide (AB<0) then i64.wrap (-AB) !=0 else AB !=0 then bif bif decide (AC<0) then i64.wrap (-AC) !=0 else AC !=0 then bif bif decide (AB<0) then i64.wrap (-AB) !=0 else AB !=0 then bif bif decide (AC<0) then i64.wrap (-AC) !=0 else AC !=0 then bif bif decide (AB<0) then i64.wrap (-AB) !=0 else AB !=0 then
 let t1:=BB (i64.wrap (AA*16777216)) AB
 let t2:=BB (i64.wrap (AA*16777216)) AC
 let t3:=BB (i64.wrap (A7*16777216)) AB
 let t4:=BB (i64.wrap (A7*16777216)) AC
 let t5:=BN (i64.wrap (AA*16777216)) AB
 let t6:=BN (i64.wrap (AA*16777216)) AC
 let t7:=BN (i64.wrap (A7*16777216)) AB
 let t8:=BN (i64.wrap (A7*16777216)) AC
 let t9:=B8 (if t1<if t2<if t3<t4 then t3 else t4 then t2 else if t3<t4 then t3 else t4 then t1 else if t2<if t3<t4 then t3 else t4 then t2 else if t3<t4 then t3 else t4) (if t5>if t6>if t7>t8 then t7 else t8 then t6 else if t7>t8 then t7 else t8 then t5 else if t6>if t7>t8 then t7 else t8 then t6 else if t7>t8 then t7 else t8)
 k (t9.1,t9.2.1,t9.2.2) else none else none else none else none else none else none else none else none else bif bif decide (AC<0) then i64.wrap (-AC) !=0 else AC !=0 then bif bif decide (AB<0) then i64.wrap (-AB) !=0 else AB !=0 then bif bif decide (AC<0) then i64.wrap (-AC) !=0 else AC !=0 then bif bif decide (AB<0) then i64.wrap (-AB) !=0 else AB !=0 then bif bif decide (AC<0) then i64.wrap (-AC) !=0 else AC !=0 then bif bif decide (AB<0) then i64.wrap (-AB) !=0 else AB !=0 then bif bif decide (AC<0) then i64.wrap (-AC) !=0 else AC !=0 then bif bif decide (AB<0) then i64.wrap (-AB) !=0 else AB !=0 then
 let t10:=BB (i64.wrap (AA*16777216)) AB
 let t11:=BB (i64.wrap (AA*16777216)) AC
 let t12:=BB (i64.wrap (A7*16777216)) AB
 let t13:=BB (i64.wrap (A7*16777216)) AC
 let t14:=BN (i64.wrap (AA*16777216)) AB
 let t15:=BN (i64.wrap (AA*16777216)) AC
 let t16:=BN (i64.wrap (A7*16777216)) AB
 let t17:=BN (i64.wrap (A7*16777216)) AC
 let t18:=B8 (if t10<if t11<if t12<t13 then t12 else t13 then t11 else if t12<t13 then t12 else t13 then t10 else if t11<if t12<t13 then t12 else t13 then t11 else if t12<t13 then t12 else t13) (if t14>if t15>if t16>t17 then t16 else t17 then t15 else if t16>t17 then t16 else t17 then t14 else if t15>if t16>t17 then t16 else t17 then t15 else if t16>t17 then t16 else t17)
 k (t18.1,t18.2.1,t18.2.2) else none else none else none else none else none else none else none else none
theorem Cc.run:xfn Tryz.prog ⟨[(82,Br.sp BW),(146,Ag.sp BB),(147,Am.sp BN),(171,An.sp B8)],[],[]⟩ [] 40 Tryz.f141 [.agg ⟨[.int .i64 A7,.int .i64 AA]⟩,.agg ⟨[.int .i64 AC,.int .i64 AB]⟩] []=Cc.K BW BB BN B8 A7 AA AC AB (fun r=>some (.tuple ⟨[.agg ⟨[.int .i64 r.1,.int .i64 r.2.1]⟩,.int .i64 r.2.2]⟩,[])):=by kernel_rfl
def Cc.o:Option (Int×Int×Int):=Cc.K Br Ag Am An A7 AA AC AB some
def Cc:Int×Int×Int:=(Cc.o A7 AA AC AB).getD default
theorem Cc.nat (k:Int×Int×Int→Option R):Cc.K BW BB BN B8 A7 AA AC AB k=(Cc.K BW BB BN B8 A7 AA AC AB some).bind k:=by
 simp only [Cc.K,bcond,Option.bind_some,Option.bind_none]
end
theorem Cc.o_eq (a b c d:Int):Cc.o a b c d=some (idiv a b c d):=by
  simp only [Cc.o,Cc.K,Br.eq,idiv,mnE,mxE]
  cases h:V a b&&V c d with
  |false=>simp
  | true=>
    have h':=h
    rw [zB] at h'
    have:=G1.1 h'.1
    have:=G1.1 h'.2
    have w3:i64.wrap (-c)= -c:=w64 (by omega) (by omega)
    have w4:i64.wrap (-d)= -d:=w64 (by omega) (by omega)
    have w5:i64.wrap (a*16777216)=a*16777216:=w64 (by omega) (by omega)
    have w6:i64.wrap (b*16777216)=b*16777216:=w64 (by omega) (by omega)
    simp only [w3,w4,w5,w6,zN,cond_false,cond_true,An.eq]
    by_cases h3:c≤0
    · by_cases h4:d≥0
      · simp [h3,h4]
      · have h5:d<0:=by omega
        have h6:c<0:=by omega
        have n1:((-d) !=0)=true:=by simp; omega
        have n2:((-c) !=0)=true:=by simp; omega
        have n3:¬(c≤0∧0≤d):=by omega
        have f1:Ag (a*16777216) c= -(a*16777216)/ -c:=Ag.eqn h6 (by omega) (by omega) (by omega)
        have f2:Ag (a*16777216) d= -(a*16777216)/ -d:=Ag.eqn h5 (by omega) (by omega) (by omega)
        have f3:Ag (b*16777216) c= -(b*16777216)/ -c:=Ag.eqn h6 (by omega) (by omega) (by omega)
        have f4:Ag (b*16777216) d= -(b*16777216)/ -d:=Ag.eqn h5 (by omega) (by omega) (by omega)
        have f5:Am (a*16777216) c=cl (-(a*16777216)) (-c):=Am.eqn h6 (by omega) (by omega) (by omega)
        have f6:Am (a*16777216) d=cl (-(a*16777216)) (-d):=Am.eqn h5 (by omega) (by omega) (by omega)
        have f7:Am (b*16777216) c=cl (-(b*16777216)) (-c):=Am.eqn h6 (by omega) (by omega) (by omega)
        have f8:Am (b*16777216) d=cl (-(b*16777216)) (-d):=Am.eqn h5 (by omega) (by omega) (by omega)
        rw [if_neg n3,if_pos h5]
        simp only [h3,h4,h5,h6,n1,n2,decide_true,decide_false,cond_true,cond_false,f1,f2,f3,f4,f5,f6,f7,f8,pdiv,Int.neg_mul]
        have g1: -(b*16777216)/ -c≤ -(a*16777216)/ -c:=HI (by omega) (by omega)
        have g2: -(b*16777216)/ -d≤ -(a*16777216)/ -d:=HI (by omega) (by omega)
        have g3:cl (-(b*16777216)) (-c)≤cl (-(a*16777216)) (-c):=KV (by omega) (by omega)
        have g4:cl (-(b*16777216)) (-d)≤cl (-(a*16777216)) (-d):=KV (by omega) (by omega)
        refine congrArg some (M7 ?_ ?_)<;>omega
    · have h5:¬d<0:=by omega
      have h6:¬c<0:=by omega
      have n1:(c !=0)=true:=by simp; omega
      have n2:(d !=0)=true:=by simp; omega
      have n3:¬(c≤0∧0≤d):=by omega
      have hc:0<c:=by omega
      have hd:0<d:=by omega
      have f1:Ag (a*16777216) c=a*16777216/c:=Ag.eq hc (by omega) (by omega)
      have f2:Ag (a*16777216) d=a*16777216/d:=Ag.eq hd (by omega) (by omega)
      have f3:Ag (b*16777216) c=b*16777216/c:=Ag.eq hc (by omega) (by omega)
      have f4:Ag (b*16777216) d=b*16777216/d:=Ag.eq hd (by omega) (by omega)
      have f5:Am (a*16777216) c=cl (a*16777216) c:=Am.eq hc (by omega) (by omega)
      have f6:Am (a*16777216) d=cl (a*16777216) d:=Am.eq hd (by omega) (by omega)
      have f7:Am (b*16777216) c=cl (b*16777216) c:=Am.eq hc (by omega) (by omega)
      have f8:Am (b*16777216) d=cl (b*16777216) d:=Am.eq hd (by omega) (by omega)
      rw [if_neg n3,if_neg h5]
      simp only [h3,h5,h6,n1,n2,decide_true,decide_false,cond_true,cond_false,f1,f2,f3,f4,f5,f6,f7,f8,pdiv]
      have g1:a*16777216/c≤b*16777216/c:=HI hc (by omega)
      have g2:a*16777216/d≤b*16777216/d:=HI hd (by omega)
      have g3:cl (a*16777216) c≤cl (b*16777216) c:=KV hc (by omega)
      have g4:cl (a*16777216) d≤cl (b*16777216) d:=KV hd (by omega)
      refine congrArg some (M7 ?_ ?_)<;>omega
theorem Cc.total (a b c d:Int):(Cc.o a b c d).isSome=true:=by rw [Cc.o_eq]; rfl
theorem Cc.eq (a b c d:Int):Cc a b c d=idiv a b c d:=by rw [Cc,Cc.o_eq]; rfl
theorem Cc.ok:SOK Tryz.prog 141 (Cc.sp Cc):=by
 refine Dl (E:=⟨[(82,Br.sp Br),(146,Ag.sp Ag),(147,Am.sp Am),(171,An.sp An)],[],[]⟩) (L:=[]) ⟨(Aa Br.ok (Aa Ag.ok (Aa Am.ok (Aa An.ok Ac)))),Aq,Aj,Ap⟩ 40 Tryz.func141 (by decide) rfl Bf fun vs bl v bl' h=> ?_
 unfold Cc.sp at h
 split at h
 ·rename_i A7 AA AC AB
  simp only [zS,zP] at h
  obtain ⟨hp,rfl,rfl⟩:=h
  have hr:=Cc.run Br Ag Am An A7 AA AC AB
  rw [Cc.nat] at hr
  obtain ⟨r,h2⟩:=Option.isSome_iff_exists.1 (Cc.total A7 AA AC AB:(Cc.o A7 AA AC AB).isSome=true)
  have h3:Cc A7 AA AC AB=r:=by unfold Cc; rw [h2]; rfl
  have h4:Cc.K Br Ag Am An A7 AA AC AB some=some r:=h2
  rw [h4,Option.bind_some] at hr
  rw [h3]
  exact ⟨hr,by simp [okV,Nat.blt],clo_spec 8 _ (by kernel_rfl),Bg (by kernel_rfl)⟩
 ·cases h
section
variable {R:Type} (B9:Int→Int→Int→Int→(Int×Int×Int)) (DB:Int→Int→Int→Int→(Int×Int×Int)) (s0_0:Int) (AC:Int) (AB:Int) (AV:Int) (AU:Int)
def Bk.K (k:Int×Int×Int→R):R:=
 let t0:=DB AC AB AV AU
 let t1:=B9 s0_0 t0.1 t0.2.1 t0.2.2
 k (t1.1,t1.2.1,t1.2.2)
theorem Bk.run:xfn Tryz.prog ⟨[(85,Ao.sp B9),(141,Cc.sp DB)],[],[]⟩ [] 40 Tryz.f91 [.pointer (some ⟨0,0,none⟩),.agg ⟨[.int .i64 AC,.int .i64 AB]⟩,.agg ⟨[.int .i64 AV,.int .i64 AU]⟩] [.cs [.int .i64 s0_0] 106]=Bk.K B9 DB s0_0 AC AB AV AU (fun r=>some (.agg ⟨[.int .i64 r.1,.int .i64 r.2.1]⟩,[.cs [.int .i64 r.2.2] 106])):=by kernel_rfl
def Bk:Int×Int×Int:=Bk.K Ao Cc s0_0 AC AB AV AU id
theorem Bk.nat (k:Int×Int×Int→R):Bk.K B9 DB s0_0 AC AB AV AU k=k (Bk.K B9 DB s0_0 AC AB AV AU id):=by
 simp only [Bk.K,acond k,id_eq]
theorem Bk.eq (s a b c d:Int):Bk s a b c d=kr s (idiv a b c d):=by
 simp only [Bk,Bk.K,id_eq,Cc.eq,JD,kr]
end
theorem Bk.ok:SOK Tryz.prog 91 (Bk.sp Bk):=by
 refine Dl (E:=⟨[(85,Ao.sp Ao),(141,Cc.sp Cc)],[],[]⟩) (L:=[]) ⟨(Aa Ao.ok (Aa Cc.ok Ac)),Aq,Aj,Ap⟩ 40 Tryz.func91 (by decide) rfl Bf fun vs bl v bl' h=> ?_
 unfold Bk.sp at h
 split at h
 ·rename_i AC AB AV AU s0_0
  simp only [zS,zP,true_and] at h
  obtain ⟨rfl,rfl⟩:=h
  refine ⟨?_,by simp [okV,Nat.blt],clo_spec 8 _ (by kernel_rfl),Bg (by kernel_rfl)⟩
  refine (Bk.run Ao Cc s0_0 AC AB AV AU).trans ?_
  refine (Bk.nat Ao Cc s0_0 AC AB AV AU _).trans ?_
  kernel_rfl
 ·cases h
section
variable {R:Type} (BS:Int→Int→Int→Int→Int→(Int×Int×Int)) (C4:Int→Int→Int→Int→Int→Int→Int→(Int×Int×Int×Int×Int×Int×Int×Int)) (CZ:Int→Int→Int→Int→Int→(Int×Int×Int)) (B7:Int→Int→(Bool)) (BM:Int→Int→Int→(Int×Int×Int)) (CU:(Int×Int)) (BR:Int→Int→Int→Int→Int→(Int×Int×Int)) (A7:Int) (AA:Int) (AC:Int) (AB:Int)
def Dv.K (k:Int×Int×Int×Int×Int×Int×Int→R):R:=
 let t0:=B7 A7 AA
 bif !t0 then k (0,0,0,0,0,0,1) else
 let t1:=B7 AC AB
 bif !t1 then k (0,0,0,0,0,0,1) else
 let t2:=BM 0 A7 AA
 let t3:=BM t2.2.2 AC AB
 let t4:=BS t3.2.2 t2.1 t2.2.1 t3.1 t3.2.1
 let t5:=BS t4.2.2 CU.fst CU.snd t4.1 t4.2.1
 let t6:=BS t5.2.2 A7 AA A7 AA
 let t7:=BR t6.2.2 t6.1 t6.2.1 t5.1 t5.2.1
 let t8:=BS t7.2.2 AC AB AC AB
 let t9:=BR t8.2.2 t8.1 t8.2.1 t5.1 t5.2.1
 let t10:=CZ t9.2.2 t4.1 t4.2.1 CU.fst CU.snd
 let t11:=BR t10.2.2 t10.1 t10.2.1 t5.1 t5.2.1
 let t12:=C4 t11.2.2 t7.1 t7.2.1 t9.1 t9.2.1 t11.1 t11.2.1
 k (t12.1,t12.2.1,t12.2.2.1,t12.2.2.2.1,t12.2.2.2.2.1,t12.2.2.2.2.2.1,t12.2.2.2.2.2.2.1)
theorem Dv.run:xfn Tryz.prog ⟨[(72,Bl.sp BS),(73,Bj.sp C4),(74,Cf.sp CZ),(76,Ad.sp B7),(89,Ba.sp BM),(90,Dw.sp CU),(91,Bk.sp BR)],[],[]⟩ [] 40 Tryz.f44 [.agg ⟨[.int .i64 A7,.int .i64 AA]⟩,.agg ⟨[.int .i64 AC,.int .i64 AB]⟩] []=Dv.K BS C4 CZ B7 BM CU BR A7 AA AC AB (fun r=>some (.tuple ⟨[.agg ⟨[.int .i64 r.1,.int .i64 r.2.1,.int .i64 r.2.2.1,.int .i64 r.2.2.2.1,.int .i64 r.2.2.2.2.1,.int .i64 r.2.2.2.2.2.1]⟩,.int .i64 r.2.2.2.2.2.2]⟩,[])):=by kernel_rfl
def Dv:Int×Int×Int×Int×Int×Int×Int:=Dv.K Bl Bj Cf Ad Ba Dw Bk A7 AA AC AB id
theorem Dv.nat (k:Int×Int×Int×Int×Int×Int×Int→R):Dv.K BS C4 CZ B7 BM CU BR A7 AA AC AB k=k (Dv.K BS C4 CZ B7 BM CU BR A7 AA AC AB id):=by
 simp only [Dv.K,acond k,id_eq]
theorem Dv.eq (a0 a1 b0 b1:Int):Dv a0 a1 b0 b1=o7 (dof (a0,a1) (b0,b1)):=by
 simp only [Dv,Dv.K,id_eq,Dw,Dw.K,Ad.eq,Ba.eq,Bl.eq,Cf.eq,Bk.eq,Bj,Bj.K,id_eq,dof,one2,sqR,addR,subR,divR,V2]
 cases hV0:V a0 a1 with
 | false=>
  simp only [hV0,st0,kr0,st70,E3,Cn,Co,o7,o3,o2,o11,E5,kp0,cond_true,cond_false,zN,Bool.not_false,Bool.false_and,Bool.and_false,Bool.true_and,Bool.and_true,bne_self_eq_false,beq_self_eq_true,if_true,if_false]
 | true=>
  cases hV1:V b0 b1 with
  | false=>
   simp only [hV0,hV1,st0,kr0,st70,E3,Cn,Co,o7,o3,o2,o11,E5,kp0,cond_true,cond_false,zN,Bool.not_false,Bool.false_and,Bool.and_false,Bool.true_and,Bool.and_true,bne_self_eq_false,beq_self_eq_true,if_true,if_false]
  | true=>
   rcases t3c (isq a0 a1) with ⟨p0,p1,h0⟩|⟨p0,p1,e0,n0,h0⟩
   ·simp only [hV0, hV1,h0,st0,kr0,st70,E3,Cn,Co,o7,o3,o2,o11,E5,kp0,cond_true,cond_false,zN,Bool.not_false,Bool.false_and,Bool.and_false,Bool.true_and,Bool.and_true,bne_self_eq_false,beq_self_eq_true,if_true,if_false]
    rcases t3c (isq b0 b1) with ⟨q0,q1,h1⟩|⟨q0,q1,e1,n1,h1⟩
    ·simp only [h1,st0,kr0,st70,E3,Cn,Co,o7,o3,o2,o11,E5,kp0,cond_true,cond_false,zN,Bool.not_false,Bool.false_and,Bool.and_false,Bool.true_and,Bool.and_true,bne_self_eq_false,beq_self_eq_true,if_true,if_false]
     rcases t3c (iadd p0 p1 q0 q1) with ⟨s0,s1,h2⟩|⟨s0,s1,e2,n2,h2⟩
     ·simp only [h2,st0,kr0,st70,E3,Cn,Co,o7,o3,o2,o11,E5,kp0,cond_true,cond_false,zN,Bool.not_false,Bool.false_and,Bool.and_false,Bool.true_and,Bool.and_true,bne_self_eq_false,beq_self_eq_true,if_true,if_false]
      rcases t3c (iadd 16777216 16777216 s0 s1) with ⟨w0,w1,h3⟩|⟨w0,w1,e3,n3,h3⟩
      ·simp only [h3,st0,kr0,st70,E3,Cn,Co,o7,o3,o2,o11,E5,kp0,cond_true,cond_false,zN,Bool.not_false,Bool.false_and,Bool.and_false,Bool.true_and,Bool.and_true,bne_self_eq_false,beq_self_eq_true,if_true,if_false]
       rcases t3c (iadd a0 a1 a0 a1) with ⟨x0,x1,h4⟩|⟨x0,x1,e4,n4,h4⟩
       ·simp only [h4,st0,kr0,st70,E3,Cn,Co,o7,o3,o2,o11,E5,kp0,cond_true,cond_false,zN,Bool.not_false,Bool.false_and,Bool.and_false,Bool.true_and,Bool.and_true,bne_self_eq_false,beq_self_eq_true,if_true,if_false]
        rcases t3c (idiv x0 x1 w0 w1) with ⟨X0,X1,h5⟩|⟨X0,X1,e5,n5,h5⟩
        ·simp only [h5,st0,kr0,st70,E3,Cn,Co,o7,o3,o2,o11,E5,kp0,cond_true,cond_false,zN,Bool.not_false,Bool.false_and,Bool.and_false,Bool.true_and,Bool.and_true,bne_self_eq_false,beq_self_eq_true,if_true,if_false]
         rcases t3c (iadd b0 b1 b0 b1) with ⟨y0,y1,h6⟩|⟨y0,y1,e6,n6,h6⟩
         ·simp only [h6,st0,kr0,st70,E3,Cn,Co,o7,o3,o2,o11,E5,kp0,cond_true,cond_false,zN,Bool.not_false,Bool.false_and,Bool.and_false,Bool.true_and,Bool.and_true,bne_self_eq_false,beq_self_eq_true,if_true,if_false]
          rcases t3c (idiv y0 y1 w0 w1) with ⟨Y0,Y1,h7⟩|⟨Y0,Y1,e7,n7,h7⟩
          ·simp only [h7,st0,kr0,st70,E3,Cn,Co,o7,o3,o2,o11,E5,kp0,cond_true,cond_false,zN,Bool.not_false,Bool.false_and,Bool.and_false,Bool.true_and,Bool.and_true,bne_self_eq_false,beq_self_eq_true,if_true,if_false]
           rcases t3c (isub s0 s1 16777216 16777216) with ⟨z0,z1,h8⟩|⟨z0,z1,e8,n8,h8⟩
           ·simp only [h8,st0,kr0,st70,E3,Cn,Co,o7,o3,o2,o11,E5,kp0,cond_true,cond_false,zN,Bool.not_false,Bool.false_and,Bool.and_false,Bool.true_and,Bool.and_true,bne_self_eq_false,beq_self_eq_true,if_true,if_false]
            rcases t3c (idiv z0 z1 w0 w1) with ⟨Z0,Z1,h9⟩|⟨Z0,Z1,e9,n9,h9⟩
            ·simp only [h9,st0,kr0,st70,E3,Cn,Co,o7,o3,o2,o11,E5,kp0,cond_true,cond_false,zN,Bool.not_false,Bool.false_and,Bool.and_false,Bool.true_and,Bool.and_true,bne_self_eq_false,beq_self_eq_true,if_true,if_false]
            ·simp only [h9,stE n9,krE n9,st7E n9,El n9,E8 n9,E9 n9,kpn _ n9,st0,kr0,st70,E3,Cn,Co,o7,o3,o2,o11,E5,kp0,cond_true,cond_false,zN,Bool.not_false,Bool.false_and,Bool.and_false,Bool.true_and,Bool.and_true,bne_self_eq_false,beq_self_eq_true,if_true,if_false]
           ·simp only [h8,stE n8,krE n8,st7E n8,El n8,E8 n8,E9 n8,kpn _ n8,st0,kr0,st70,E3,Cn,Co,o7,o3,o2,o11,E5,kp0,cond_true,cond_false,zN,Bool.not_false,Bool.false_and,Bool.and_false,Bool.true_and,Bool.and_true,bne_self_eq_false,beq_self_eq_true,if_true,if_false]
          ·simp only [h7,stE n7,krE n7,st7E n7,El n7,E8 n7,E9 n7,kpn _ n7,st0,kr0,st70,E3,Cn,Co,o7,o3,o2,o11,E5,kp0,cond_true,cond_false,zN,Bool.not_false,Bool.false_and,Bool.and_false,Bool.true_and,Bool.and_true,bne_self_eq_false,beq_self_eq_true,if_true,if_false]
         ·simp only [h6,stE n6,krE n6,st7E n6,El n6,E8 n6,E9 n6,kpn _ n6,st0,kr0,st70,E3,Cn,Co,o7,o3,o2,o11,E5,kp0,cond_true,cond_false,zN,Bool.not_false,Bool.false_and,Bool.and_false,Bool.true_and,Bool.and_true,bne_self_eq_false,beq_self_eq_true,if_true,if_false]
        ·simp only [h5,stE n5,krE n5,st7E n5,El n5,E8 n5,E9 n5,kpn _ n5,st0,kr0,st70,E3,Cn,Co,o7,o3,o2,o11,E5,kp0,cond_true,cond_false,zN,Bool.not_false,Bool.false_and,Bool.and_false,Bool.true_and,Bool.and_true,bne_self_eq_false,beq_self_eq_true,if_true,if_false]
       ·simp only [h4,stE n4,krE n4,st7E n4,El n4,E8 n4,E9 n4,kpn _ n4,st0,kr0,st70,E3,Cn,Co,o7,o3,o2,o11,E5,kp0,cond_true,cond_false,zN,Bool.not_false,Bool.false_and,Bool.and_false,Bool.true_and,Bool.and_true,bne_self_eq_false,beq_self_eq_true,if_true,if_false]
      ·simp only [h3,stE n3,krE n3,st7E n3,El n3,E8 n3,E9 n3,kpn _ n3,st0,kr0,st70,E3,Cn,Co,o7,o3,o2,o11,E5,kp0,cond_true,cond_false,zN,Bool.not_false,Bool.false_and,Bool.and_false,Bool.true_and,Bool.and_true,bne_self_eq_false,beq_self_eq_true,if_true,if_false]
     ·simp only [h2,stE n2,krE n2,st7E n2,El n2,E8 n2,E9 n2,kpn _ n2,st0,kr0,st70,E3,Cn,Co,o7,o3,o2,o11,E5,kp0,cond_true,cond_false,zN,Bool.not_false,Bool.false_and,Bool.and_false,Bool.true_and,Bool.and_true,bne_self_eq_false,beq_self_eq_true,if_true,if_false]
    ·simp only [h1,stE n1,krE n1,st7E n1,El n1,E8 n1,E9 n1,kpn _ n1,st0,kr0,st70,E3,Cn,Co,o7,o3,o2,o11,E5,kp0,cond_true,cond_false,zN,Bool.not_false,Bool.false_and,Bool.and_false,Bool.true_and,Bool.and_true,bne_self_eq_false,beq_self_eq_true,if_true,if_false]
   ·simp only [hV0,hV1,h0,stE n0,krE n0,st7E n0,El n0,E8 n0,E9 n0,kpn _ n0,st0,kr0,st70,E3,Cn,Co,o7,o3,o2,o11,E5,kp0,cond_true,cond_false,zN,Bool.not_false,Bool.false_and,Bool.and_false,Bool.true_and,Bool.and_true,bne_self_eq_false,beq_self_eq_true,if_true,if_false]
end
theorem Dv.ok:SOK Tryz.prog 44 (Dv.sp Dv):=by
 refine Dl (E:=⟨[(72,Bl.sp Bl),(73,Bj.sp Bj),(74,Cf.sp Cf),(76,Ad.sp Ad),(89,Ba.sp Ba),(90,Dw.sp Dw),(91,Bk.sp Bk)],[],[]⟩) (L:=[]) ⟨(Aa Bl.ok (Aa Bj.ok (Aa Cf.ok (Aa Ad.ok (Aa Ba.ok (Aa Dw.ok (Aa Bk.ok Ac))))))),Aq,Aj,Ap⟩ 40 Tryz.func44 (by decide) rfl Bf fun vs bl v bl' h=> ?_
 unfold Dv.sp at h
 split at h
 ·rename_i A7 AA AC AB
  simp only [zS,zP,true_and] at h
  obtain ⟨rfl,rfl⟩:=h
  refine ⟨?_,by simp [okV,Nat.blt],clo_spec 8 _ (by kernel_rfl),Bg (by kernel_rfl)⟩
  refine (Dv.run Bl Bj Cf Ad Ba Dw Bk A7 AA AC AB).trans ?_
  refine (Dv.nat Bl Bj Cf Ad Ba Dw Bk A7 AA AC AB _).trans ?_
  kernel_rfl
 ·cases h
section
variable {R:Type} (s0_0:Int) (AC:Int) (AB:Int)
def Ck.K (k:Int×Int×Int×Int→R):R:=
 bif s0_0 !=0 then k (0,0,s0_0,s0_0) else k (AC,AB,0,s0_0)
theorem Ck.run:xfn Tryz.prog ⟨[],[],[]⟩ [] 40 Tryz.f78 [.pointer (some ⟨0,0,none⟩),.agg ⟨[.int .i64 AC,.int .i64 AB]⟩] [.cs [.int .i64 s0_0] 106]=Ck.K s0_0 AC AB (fun r=>some (.tuple ⟨[.agg ⟨[.int .i64 r.1,.int .i64 r.2.1]⟩,.int .i64 r.2.2.1]⟩,[.cs [.int .i64 r.2.2.2] 106])):=by kernel_rfl
def Ck:Int×Int×Int×Int:=Ck.K s0_0 AC AB id
theorem Ck.nat (k:Int×Int×Int×Int→R):Ck.K s0_0 AC AB k=k (Ck.K s0_0 AC AB id):=by
 simp only [Ck.K,acond k,id_eq]
end
theorem Ck.ok:SOK Tryz.prog 78 (Ck.sp Ck):=by
 refine Dl (E:=⟨[],[],[]⟩) (L:=[]) ⟨Ac,Aq,Aj,Ap⟩ 40 Tryz.func78 (by decide) rfl Bf fun vs bl v bl' h=> ?_
 unfold Ck.sp at h
 split at h
 ·rename_i AC AB s0_0
  simp only [zS,zP,true_and] at h
  obtain ⟨rfl,rfl⟩:=h
  refine ⟨?_,by simp [okV,Nat.blt],clo_spec 8 _ (by kernel_rfl),Bg (by kernel_rfl)⟩
  refine (Ck.run s0_0 AC AB).trans ?_
  refine (Ck.nat s0_0 AC AB _).trans ?_
  kernel_rfl
 ·cases h
section
variable {R:Type} (CD:Int→Int→Int→Int→Int→Int→(Bool)) (BS:Int→Int→Int→Int→Int→(Int×Int×Int)) (CX:Int→Int→Int→(Int×Int×Int×Int)) (BM:Int→Int→Int→(Int×Int×Int)) (A7:Int) (AA:Int) (AG:Int) (AF:Int) (AE:Int) (AD:Int)
def Ca.K (k:Int×Int×Int→R):R:=
 let t0:=CD A7 AA AG AF AE AD
 bif !t0 then k (0,0,1) else
 let t1:=BM 0 A7 AA
 let t2:=BM t1.2.2 AG AF
 let t3:=BM t2.2.2 AE AD
 let t4:=BS t3.2.2 t1.1 t1.2.1 t2.1 t2.2.1
 let t5:=BS t4.2.2 t4.1 t4.2.1 t3.1 t3.2.1
 let t6:=CX t5.2.2 t5.1 t5.2.1
 k (t6.1,t6.2.1,t6.2.2.1)
theorem Ca.run:xfn Tryz.prog ⟨[(34,Bi.sp CD),(72,Bl.sp BS),(78,Ck.sp CX),(89,Ba.sp BM)],[],[]⟩ [] 40 Tryz.f46 [.agg ⟨[.int .i64 A7,.int .i64 AA,.int .i64 AG,.int .i64 AF,.int .i64 AE,.int .i64 AD]⟩] []=Ca.K CD BS CX BM A7 AA AG AF AE AD (fun r=>some (.tuple ⟨[.agg ⟨[.int .i64 r.1,.int .i64 r.2.1]⟩,.int .i64 r.2.2]⟩,[])):=by kernel_rfl
def Ca:Int×Int×Int:=Ca.K Bi Bl Ck Ba A7 AA AG AF AE AD id
theorem Ca.nat (k:Int×Int×Int→R):Ca.K CD BS CX BM A7 AA AG AF AE AD k=k (Ca.K CD BS CX BM A7 AA AG AF AE AD id):=by
 simp only [Ca.K,acond k,id_eq]
theorem Ca.eq (a0 a1 a2 a3 a4 a5:Int):Ca a0 a1 a2 a3 a4 a5=o3 (dnorm ((a0,a1),(a2,a3),(a4,a5))):=by
 simp only [Ca,Ca.K,id_eq,Bi.eq,Ba.eq,Bl.eq,Ck,Ck.K,id_eq,dnorm,sqR,addR]
 cases hV0:VB ((a0,a1),(a2,a3),(a4,a5)) with
 | false=>
  simp only [hV0,st0,kr0,st70,E3,Cn,Co,o7,o3,o2,o11,E5,kp0,cond_true,cond_false,zN,Bool.not_false,Bool.false_and,Bool.and_false,Bool.true_and,Bool.and_true,bne_self_eq_false,beq_self_eq_true,if_true,if_false]
 | true=>
  rcases t3c (isq a0 a1) with ⟨x0,x1,h0⟩|⟨x0,x1,e0,n0,h0⟩
  ·simp only [hV0,h0,st0,kr0,st70,E3,Cn,Co,o7,o3,o2,o11,E5,kp0,cond_true,cond_false,zN,Bool.not_false,Bool.false_and,Bool.and_false,Bool.true_and,Bool.and_true,bne_self_eq_false,beq_self_eq_true,if_true,if_false]
   rcases t3c (isq a2 a3) with ⟨y0,y1,h1⟩|⟨y0,y1,e1,n1,h1⟩
   ·simp only [h1,st0,kr0,st70,E3,Cn,Co,o7,o3,o2,o11,E5,kp0,cond_true,cond_false,zN,Bool.not_false,Bool.false_and,Bool.and_false,Bool.true_and,Bool.and_true,bne_self_eq_false,beq_self_eq_true,if_true,if_false]
    rcases t3c (isq a4 a5) with ⟨z0,z1,h2⟩|⟨z0,z1,e2,n2,h2⟩
    ·simp only [h2,st0,kr0,st70,E3,Cn,Co,o7,o3,o2,o11,E5,kp0,cond_true,cond_false,zN,Bool.not_false,Bool.false_and,Bool.and_false,Bool.true_and,Bool.and_true,bne_self_eq_false,beq_self_eq_true,if_true,if_false]
     rcases t3c (iadd x0 x1 y0 y1) with ⟨s0,s1,h3⟩|⟨s0,s1,e3,n3,h3⟩
     ·simp only [h3,st0,kr0,st70,E3,Cn,Co,o7,o3,o2,o11,E5,kp0,cond_true,cond_false,zN,Bool.not_false,Bool.false_and,Bool.and_false,Bool.true_and,Bool.and_true,bne_self_eq_false,beq_self_eq_true,if_true,if_false]
      rcases t3c (iadd s0 s1 z0 z1) with ⟨t0,t1,h4⟩|⟨t0,t1,e4,n4,h4⟩
      ·simp only [h4,st0,kr0,st70,E3,Cn,Co,o7,o3,o2,o11,E5,kp0,cond_true,cond_false,zN,Bool.not_false,Bool.false_and,Bool.and_false,Bool.true_and,Bool.and_true,bne_self_eq_false,beq_self_eq_true,if_true,if_false]
      ·simp only [h4,stE n4,krE n4,st7E n4,El n4,E8 n4,E9 n4,kpn _ n4,st0,kr0,st70,E3,Cn,Co,o7,o3,o2,o11,E5,kp0,cond_true,cond_false,zN,Bool.not_false,Bool.false_and,Bool.and_false,Bool.true_and,Bool.and_true,bne_self_eq_false,beq_self_eq_true,if_true,if_false]
     ·simp only [h3,stE n3,krE n3,st7E n3,El n3,E8 n3,E9 n3,kpn _ n3,st0,kr0,st70,E3,Cn,Co,o7,o3,o2,o11,E5,kp0,cond_true,cond_false,zN,Bool.not_false,Bool.false_and,Bool.and_false,Bool.true_and,Bool.and_true,bne_self_eq_false,beq_self_eq_true,if_true,if_false]
    ·simp only [h2,stE n2,krE n2,st7E n2,El n2,E8 n2,E9 n2,kpn _ n2,st0,kr0,st70,E3,Cn,Co,o7,o3,o2,o11,E5,kp0,cond_true,cond_false,zN,Bool.not_false,Bool.false_and,Bool.and_false,Bool.true_and,Bool.and_true,bne_self_eq_false,beq_self_eq_true,if_true,if_false]
   ·simp only [h1,stE n1,krE n1,st7E n1,El n1,E8 n1,E9 n1,kpn _ n1,st0,kr0,st70,E3,Cn,Co,o7,o3,o2,o11,E5,kp0,cond_true,cond_false,zN,Bool.not_false,Bool.false_and,Bool.and_false,Bool.true_and,Bool.and_true,bne_self_eq_false,beq_self_eq_true,if_true,if_false]
  ·simp only [hV0,h0,stE n0,krE n0,st7E n0,El n0,E8 n0,E9 n0,kpn _ n0,st0,kr0,st70,E3,Cn,Co,o7,o3,o2,o11,E5,kp0,cond_true,cond_false,zN,Bool.not_false,Bool.false_and,Bool.and_false,Bool.true_and,Bool.and_true,bne_self_eq_false,beq_self_eq_true,if_true,if_false]
end
theorem Ca.ok:SOK Tryz.prog 46 (Ca.sp Ca):=by
 refine Dl (E:=⟨[(34,Bi.sp Bi),(72,Bl.sp Bl),(78,Ck.sp Ck),(89,Ba.sp Ba)],[],[]⟩) (L:=[]) ⟨(Aa Bi.ok (Aa Bl.ok (Aa Ck.ok (Aa Ba.ok Ac)))),Aq,Aj,Ap⟩ 40 Tryz.func46 (by decide) rfl Bf fun vs bl v bl' h=> ?_
 unfold Ca.sp at h
 split at h
 ·rename_i A7 AA AG AF AE AD
  simp only [zS,zP,true_and] at h
  obtain ⟨rfl,rfl⟩:=h
  refine ⟨?_,by simp [okV,Nat.blt],clo_spec 8 _ (by kernel_rfl),Bg (by kernel_rfl)⟩
  refine (Ca.run Bi Bl Ck Ba A7 AA AG AF AE AD).trans ?_
  refine (Ca.nat Bi Bl Ck Ba A7 AA AG AF AE AD _).trans ?_
  kernel_rfl
 ·cases h
section
variable {R:Type} (B7:Int→Int→(Bool)) (B8:Int→Int→(Int×Int×Int)) (A7:Int) (AA:Int)
def De.K (k:Int×Int×Int→R):R:=
 let t0:=B7 A7 AA
 bif !t0 then k (0,0,1) else bif decide (A7<0) then k (0,0,2) else bif decide (i64.wrap (rroot.rt 32 (i64.wrap (AA*16777216)) 0*rroot.rt 32 (i64.wrap (AA*16777216)) 0)<i64.wrap (AA*16777216)) then
 let t1:=B8 (rroot.rt 32 (i64.wrap (A7*16777216)) 0) (i64.wrap (rroot.rt 32 (i64.wrap (AA*16777216)) 0+1))
 k (t1.1,t1.2.1,t1.2.2) else
 let t2:=B8 (rroot.rt 32 (i64.wrap (A7*16777216)) 0) (rroot.rt 32 (i64.wrap (AA*16777216)) 0)
 k (t2.1,t2.2.1,t2.2.2)
theorem De.run:xfn Tryz.prog ⟨[(76,Ad.sp B7),(171,An.sp B8),(181,FB.sp)],[],[]⟩ [] 40 Tryz.f142 [.agg ⟨[.int .i64 A7,.int .i64 AA]⟩] []=De.K B7 B8 A7 AA (fun r=>some (.tuple ⟨[.agg ⟨[.int .i64 r.1,.int .i64 r.2.1]⟩,.int .i64 r.2.2]⟩,[])):=by kernel_rfl
def De:Int×Int×Int:=De.K Ad An A7 AA id
theorem De.nat (k:Int×Int×Int→R):De.K B7 B8 A7 AA k=k (De.K B7 B8 A7 AA id):=by
 simp only [De.K,acond k,id_eq]
end
theorem JU:∀(k:Nat) (n r:Int),0≤n→n≤18014398509481984→0≤r→rroot.rt k n r=rts k n r
 |0,n,r,_,_,_=>rfl
 | k +1,n,r,h0,h1,h2=>by
  have hp:(0:Int)<2^k:=Hg k
  simp only [rroot.rt,rts]
  by_cases hc:(r+2^k)*(r+2^k)≤n
  ·have hb:r+2^k≤134217728:=LA (by omega) (by omega)
   rw [if_pos hc,if_pos ⟨by omega,hc⟩]
   exact JU k n _ h0 h1 (by omega)
  ·rw [if_neg hc,if_neg (fun h=>hc h.2)]
   exact JU k n _ h0 h1 h2
theorem Ln {n:Int} (h0:0≤n) (h:n≤18014398509481984):rroot.rt 32 n 0=sqt n:=JU 32 n 0 h0 h (by omega)
theorem De.eq (a b:Int):De a b=isr a b:=by
 simp only [De,De.K,id_eq,Ad.eq,isr]
 cases hv:V a b with
 |false=>rfl
 | true=>
  have:=G1.1 hv
  by_cases ha:a<0
  ·simp only [ha,decide_true,zN,cond_false,cond_true,if_true]
  ·have w1:i64.wrap (a*16777216)=a*16777216:=w64 (by omega) (by omega)
   have w2:i64.wrap (b*16777216)=b*16777216:=w64 (by omega) (by omega)
   have r1:=Ln (n:=a*16777216) (by omega) (by omega)
   have r2:=Ln (n:=b*16777216) (by omega) (by omega)
   have s2:=Gu (n:=b*16777216) (by omega) (by omega)
   have g:=M0 (a:=a) (b:=b) (by omega) (by omega) (by omega)
   have g2:=(Is (n:=b*16777216) (by omega) (by omega)).2.2.2
   simp only [ha,decide_false,zN,cond_false,cond_true,if_false,w1,w2,r1,r2]
   have g3:=G3 (sqt (b*16777216))
   rw [w64 (n:=sqt (b*16777216)*sqt (b*16777216)) (by omega) (by omega)]
   by_cases hc:sqt (b*16777216)*sqt (b*16777216)<b*16777216
   ·have e:sqc (b*16777216)=sqt (b*16777216)+1:=by rw [sqc,if_pos hc]
    simp only [hc,decide_true,cond_true]
    rw [w64 (by omega) (by omega),←e,An.eq,Mj (by omega) (by omega) (by omega)]
   ·have e:sqc (b*16777216)=sqt (b*16777216):=by rw [sqc,if_neg hc]
    simp only [hc,decide_false,cond_false]
    rw [←e,An.eq,Mj (by omega) (by omega) (by omega)]
theorem De.ok:SOK Tryz.prog 142 (De.sp De):=by
 refine Dl (E:=⟨[(76,Ad.sp Ad),(171,An.sp An),(181,FB.sp)],[],[]⟩) (L:=[]) ⟨(Aa Ad.ok (Aa An.ok (Aa FB.ok Ac))),Aq,Aj,Ap⟩ 40 Tryz.func142 (by decide) rfl Bf fun vs bl v bl' h=> ?_
 unfold De.sp at h
 split at h
 ·rename_i A7 AA
  simp only [zS,zP,true_and] at h
  obtain ⟨rfl,rfl⟩:=h
  refine ⟨?_,by simp [okV,Nat.blt],clo_spec 8 _ (by kernel_rfl),Bg (by kernel_rfl)⟩
  refine (De.run Ad An A7 AA).trans ?_
  refine (De.nat Ad An A7 AA _).trans ?_
  kernel_rfl
 ·cases h
section
variable {R:Type} (B9:Int→Int→Int→Int→(Int×Int×Int)) (D8:Int→Int→(Int×Int×Int)) (s0_0:Int) (AC:Int) (AB:Int)
def Cb.K (k:Int×Int×Int→R):R:=
 let t0:=D8 AC AB
 let t1:=B9 s0_0 t0.1 t0.2.1 t0.2.2
 k (t1.1,t1.2.1,t1.2.2)
theorem Cb.run:xfn Tryz.prog ⟨[(85,Ao.sp B9),(142,De.sp D8)],[],[]⟩ [] 40 Tryz.f92 [.pointer (some ⟨0,0,none⟩),.agg ⟨[.int .i64 AC,.int .i64 AB]⟩] [.cs [.int .i64 s0_0] 106]=Cb.K B9 D8 s0_0 AC AB (fun r=>some (.agg ⟨[.int .i64 r.1,.int .i64 r.2.1]⟩,[.cs [.int .i64 r.2.2] 106])):=by kernel_rfl
def Cb:Int×Int×Int:=Cb.K Ao De s0_0 AC AB id
theorem Cb.nat (k:Int×Int×Int→R):Cb.K B9 D8 s0_0 AC AB k=k (Cb.K B9 D8 s0_0 AC AB id):=by
 simp only [Cb.K,acond k,id_eq]
theorem Cb.eq (s a b:Int):Cb s a b=kr s (isr a b):=by
 simp only [Cb,Cb.K,id_eq,De.eq,JD,kr]
end
theorem Cb.ok:SOK Tryz.prog 92 (Cb.sp Cb):=by
 refine Dl (E:=⟨[(85,Ao.sp Ao),(142,De.sp De)],[],[]⟩) (L:=[]) ⟨(Aa Ao.ok (Aa De.ok Ac)),Aq,Aj,Ap⟩ 40 Tryz.func92 (by decide) rfl Bf fun vs bl v bl' h=> ?_
 unfold Cb.sp at h
 split at h
 ·rename_i AC AB s0_0
  simp only [zS,zP,true_and] at h
  obtain ⟨rfl,rfl⟩:=h
  refine ⟨?_,by simp [okV,Nat.blt],clo_spec 8 _ (by kernel_rfl),Bg (by kernel_rfl)⟩
  refine (Cb.run Ao De s0_0 AC AB).trans ?_
  refine (Cb.nat Ao De s0_0 AC AB _).trans ?_
  kernel_rfl
 ·cases h
section
variable {R:Type} (CE:Int→Int→Int→Int→Int→Int→(Int×Int×Int)) (C4:Int→Int→Int→Int→Int→Int→Int→(Int×Int×Int×Int×Int×Int×Int×Int)) (BR:Int→Int→Int→Int→Int→(Int×Int×Int)) (CY:Int→Int→Int→(Int×Int×Int)) (A7:Int) (AA:Int) (AG:Int) (AF:Int) (AE:Int) (AD:Int)
def Dd.K (k:Int×Int×Int×Int×Int×Int×Int→R):R:=
 let t0:=CE A7 AA AG AF AE AD
 bif t0.2.2 !=0 then k (0,0,0,0,0,0,t0.2.2) else
 let t1:=CY 0 t0.1 t0.2.1
 let t2:=BR t1.2.2 A7 AA t1.1 t1.2.1
 let t3:=BR t2.2.2 AG AF t1.1 t1.2.1
 let t4:=BR t3.2.2 AE AD t1.1 t1.2.1
 let t5:=C4 t4.2.2 t2.1 t2.2.1 t3.1 t3.2.1 t4.1 t4.2.1
 k (t5.1,t5.2.1,t5.2.2.1,t5.2.2.2.1,t5.2.2.2.2.1,t5.2.2.2.2.2.1,t5.2.2.2.2.2.2.1)
theorem Dd.run:xfn Tryz.prog ⟨[(46,Ca.sp CE),(73,Bj.sp C4),(91,Bk.sp BR),(92,Cb.sp CY)],[],[]⟩ [] 40 Tryz.f45 [.agg ⟨[.int .i64 A7,.int .i64 AA,.int .i64 AG,.int .i64 AF,.int .i64 AE,.int .i64 AD]⟩] []=Dd.K CE C4 BR CY A7 AA AG AF AE AD (fun r=>some (.tuple ⟨[.agg ⟨[.int .i64 r.1,.int .i64 r.2.1,.int .i64 r.2.2.1,.int .i64 r.2.2.2.1,.int .i64 r.2.2.2.2.1,.int .i64 r.2.2.2.2.2.1]⟩,.int .i64 r.2.2.2.2.2.2]⟩,[])):=by kernel_rfl
def Dd:Int×Int×Int×Int×Int×Int×Int:=Dd.K Ca Bj Bk Cb A7 AA AG AF AE AD id
theorem Dd.nat (k:Int×Int×Int×Int×Int×Int×Int→R):Dd.K CE C4 BR CY A7 AA AG AF AE AD k=k (Dd.K CE C4 BR CY A7 AA AG AF AE AD id):=by
 simp only [Dd.K,acond k,id_eq]
theorem Dd.eq (a0 a1 a2 a3 a4 a5:Int):Dd a0 a1 a2 a3 a4 a5=o7 (dunit ((a0,a1),(a2,a3),(a4,a5))):=by
 simp only [Dd,Dd.K,id_eq,Ca.eq,Cb.eq,Bk.eq,Bj,Bj.K,id_eq,dunit,dzip,rtR,divR]
 rcases (Na ((a0,a1),(a2,a3),(a4,a5))).cases with ⟨⟨n0_,n1_⟩,h0⟩|⟨e0,n0,h0⟩
 ·simp only [h0,st0,kr0,st70,E3,Cn,Co,o7,o3,o2,o11,E5,kp0,cond_true,cond_false,zN,Bool.not_false,Bool.false_and,Bool.and_false,Bool.true_and,Bool.and_true,bne_self_eq_false,beq_self_eq_true,if_true,if_false]
  rcases t3c (isr n0_ n1_) with ⟨l0,l1,h1⟩|⟨l0,l1,e1,n1,h1⟩
  ·simp only [h1,st0,kr0,st70,E3,Cn,Co,o7,o3,o2,o11,E5,kp0,cond_true,cond_false,zN,Bool.not_false,Bool.false_and,Bool.and_false,Bool.true_and,Bool.and_true,bne_self_eq_false,beq_self_eq_true,if_true,if_false]
   rcases t3c (idiv a0 a1 l0 l1) with ⟨x0,x1,h2⟩|⟨x0,x1,e2,n2,h2⟩
   ·simp only [h2,st0,kr0,st70,E3,Cn,Co,o7,o3,o2,o11,E5,kp0,cond_true,cond_false,zN,Bool.not_false,Bool.false_and,Bool.and_false,Bool.true_and,Bool.and_true,bne_self_eq_false,beq_self_eq_true,if_true,if_false]
    rcases t3c (idiv a2 a3 l0 l1) with ⟨y0,y1,h3⟩|⟨y0,y1,e3,n3,h3⟩
    ·simp only [h3,st0,kr0,st70,E3,Cn,Co,o7,o3,o2,o11,E5,kp0,cond_true,cond_false,zN,Bool.not_false,Bool.false_and,Bool.and_false,Bool.true_and,Bool.and_true,bne_self_eq_false,beq_self_eq_true,if_true,if_false]
     rcases t3c (idiv a4 a5 l0 l1) with ⟨z0,z1,h4⟩|⟨z0,z1,e4,n4,h4⟩
     ·simp only [h4,st0,kr0,st70,E3,Cn,Co,o7,o3,o2,o11,E5,kp0,cond_true,cond_false,zN,Bool.not_false,Bool.false_and,Bool.and_false,Bool.true_and,Bool.and_true,bne_self_eq_false,beq_self_eq_true,if_true,if_false]
     ·simp only [h4,stE n4,krE n4,st7E n4,El n4,E8 n4,E9 n4,kpn _ n4,st0,kr0,st70,E3,Cn,Co,o7,o3,o2,o11,E5,kp0,cond_true,cond_false,zN,Bool.not_false,Bool.false_and,Bool.and_false,Bool.true_and,Bool.and_true,bne_self_eq_false,beq_self_eq_true,if_true,if_false]
    ·simp only [h3,stE n3,krE n3,st7E n3,El n3,E8 n3,E9 n3,kpn _ n3,st0,kr0,st70,E3,Cn,Co,o7,o3,o2,o11,E5,kp0,cond_true,cond_false,zN,Bool.not_false,Bool.false_and,Bool.and_false,Bool.true_and,Bool.and_true,bne_self_eq_false,beq_self_eq_true,if_true,if_false]
   ·simp only [h2,stE n2,krE n2,st7E n2,El n2,E8 n2,E9 n2,kpn _ n2,st0,kr0,st70,E3,Cn,Co,o7,o3,o2,o11,E5,kp0,cond_true,cond_false,zN,Bool.not_false,Bool.false_and,Bool.and_false,Bool.true_and,Bool.and_true,bne_self_eq_false,beq_self_eq_true,if_true,if_false]
  ·simp only [h1,stE n1,krE n1,st7E n1,El n1,E8 n1,E9 n1,kpn _ n1,st0,kr0,st70,E3,Cn,Co,o7,o3,o2,o11,E5,kp0,cond_true,cond_false,zN,Bool.not_false,Bool.false_and,Bool.and_false,Bool.true_and,Bool.and_true,bne_self_eq_false,beq_self_eq_true,if_true,if_false]
 ·simp only [h0,stE n0,krE n0,st7E n0,El n0,E8 n0,E9 n0,kpn _ n0,st0,kr0,st70,E3,Cn,Co,o7,o3,o2,o11,E5,kp0,cond_true,cond_false,zN,Bool.not_false,Bool.false_and,Bool.and_false,Bool.true_and,Bool.and_true,bne_self_eq_false,beq_self_eq_true,if_true,if_false]
end
theorem Dd.ok:SOK Tryz.prog 45 (Dd.sp Dd):=by
 refine Dl (E:=⟨[(46,Ca.sp Ca),(73,Bj.sp Bj),(91,Bk.sp Bk),(92,Cb.sp Cb)],[],[]⟩) (L:=[]) ⟨(Aa Ca.ok (Aa Bj.ok (Aa Bk.ok (Aa Cb.ok Ac)))),Aq,Aj,Ap⟩ 40 Tryz.func45 (by decide) rfl Bf fun vs bl v bl' h=> ?_
 unfold Dd.sp at h
 split at h
 ·rename_i A7 AA AG AF AE AD
  simp only [zS,zP,true_and] at h
  obtain ⟨rfl,rfl⟩:=h
  refine ⟨?_,by simp [okV,Nat.blt],clo_spec 8 _ (by kernel_rfl),Bg (by kernel_rfl)⟩
  refine (Dd.run Ca Bj Bk Cb A7 AA AG AF AE AD).trans ?_
  refine (Dd.nat Ca Bj Bk Cb A7 AA AG AF AE AD _).trans ?_
  kernel_rfl
 ·cases h
section
variable {R:Type} (DH:Int→Int→Int→Int→(Int×Int×Int×Int×Int×Int×Int)) (CC:Int→Int→Int→Int→Int→Int→(Int×Int×Int)) (CT:Int→Int→Int→Int→Int→Int→(Int×Int×Int×Int×Int×Int)) (CD:Int→Int→Int→Int→Int→Int→(Bool)) (D9:Int→Int→Int→Int→Int→Int→(Int×Int×Int×Int×Int×Int×Int)) (DE:Int→Int→Int→Int→(Int×Int×Int×Int×Int×Int×Int)) (D7:Int→Int→Int→Int→Int→Int→(Int×Int×Int×Int×Int×Int×Int)) (CE:Int→Int→Int→Int→Int→Int→(Int×Int×Int)) (D6:Int→Int→Int→Int→Int→Int→(ByteArray×Int)) (D2:Int→Int→Int→Int→Int→Int→(ByteArray×Int)) (CB:Int→Int→Int→Int→Int→Int→(Bool)) (A7:Int) (AA:Int) (AC:Int) (AB:Int) (AV:Int) (AU:Int) (DQ:Int) (DP:Int) (DO:Int) (DN:Int)
def Dg.K (k:(Bool)→R):R:=
 let t0:=DH A7 AA AC AB
 let t1:=CT t0.1 t0.2.1 t0.2.2.1 t0.2.2.2.1 t0.2.2.2.2.1 t0.2.2.2.2.2.1
 let t2:=DE A7 AA AC AB
 bif t1.1==t2.1&&t1.2.1==t2.2.1&&(t1.2.2.1==t2.2.2.1&&t1.2.2.2.1==t2.2.2.2.1&&(t1.2.2.2.2.1==t2.2.2.2.2.1&&t1.2.2.2.2.2==t2.2.2.2.2.2.1)) then bif t0.2.2.2.2.2.2==t2.2.2.2.2.2.2 then
 let t3:=D9 AV AU DQ DP DO DN
 let t4:=CT t3.1 t3.2.1 t3.2.2.1 t3.2.2.2.1 t3.2.2.2.2.1 t3.2.2.2.2.2.1
 let t5:=CT AV AU DQ DP DO DN
 let t6:=D7 t5.1 t5.2.1 t5.2.2.1 t5.2.2.2.1 t5.2.2.2.2.1 t5.2.2.2.2.2
 bif t4.1==t6.1&&t4.2.1==t6.2.1&&(t4.2.2.1==t6.2.2.1&&t4.2.2.2.1==t6.2.2.2.1&&(t4.2.2.2.2.1==t6.2.2.2.2.1&&t4.2.2.2.2.2==t6.2.2.2.2.2.1)) then bif t3.2.2.2.2.2.2==t6.2.2.2.2.2.2 then
 let t7:=CC AV AU DQ DP DO DN
 let t8:=CE t5.1 t5.2.1 t5.2.2.1 t5.2.2.2.1 t5.2.2.2.2.1 t5.2.2.2.2.2
 bif t7.1==t8.1&&t7.2.1==t8.2.1 then bif t7.2.2==t8.2.2 then
 let t9:=D6 AV AU DQ DP DO DN
 let t10:=D2 t5.1 t5.2.1 t5.2.2.1 t5.2.2.2.1 t5.2.2.2.2.1 t5.2.2.2.2.2
 bif t9.1.toList==t10.1.toList then bif t9.2==t10.2 then
 let t11:=CB AV AU DQ DP DO DN
 let t12:=CD t5.1 t5.2.1 t5.2.2.1 t5.2.2.2.1 t5.2.2.2.2.1 t5.2.2.2.2.2
 k (t11==t12) else k (false) else k (false) else k (false) else k (false) else k (false) else k (false) else k (false) else k (false)
theorem Dg.run:xfn Tryz.prog ⟨[(10,EQ.sp),(10,EQ.sp),(20,Dz.sp DH),(21,Ci.sp CC),(25,Df.sp CT),(34,Bi.sp CD),(36,Dq.sp D9),(44,Dv.sp DE),(45,Dd.sp D7),(46,Ca.sp CE),(47,direction_Print.sp D6),(48,culetref28_Print.sp D2),(49,Bo.sp CB)],[],[]⟩ [] 40 Tryz.f9 [.agg ⟨[.int .i64 A7,.int .i64 AA]⟩,.agg ⟨[.int .i64 AC,.int .i64 AB]⟩,.agg ⟨[.int .i64 AV,.int .i64 AU,.int .i64 DQ,.int .i64 DP,.int .i64 DO,.int .i64 DN]⟩] []=Dg.K DH CC CT CD D9 DE D7 CE D6 D2 CB A7 AA AC AB AV AU DQ DP DO DN (fun r=>some (.bool r,[])):=by kernel_rfl
def Dg:Bool:=Dg.K Dz Ci Df Bi Dq Dv Dd Ca direction_Print culetref28_Print Bo A7 AA AC AB AV AU DQ DP DO DN id
theorem Dg.nat (k:(Bool)→R):Dg.K DH CC CT CD D9 DE D7 CE D6 D2 CB A7 AA AC AB AV AU DQ DP DO DN k=k (Dg.K DH CC CT CD D9 DE D7 CE D6 D2 CB A7 AA AC AB AV AU DQ DP DO DN id):=by
 simp only [Dg.K,acond k,id_eq]
end
theorem PY (a0 a1 a2 a3 a4 a5:Int):Df a0 a1 a2 a3 a4 a5=(a0,a1,a2,a3,a4,a5):=rfl
theorem Pf (a0 a1 a2 a3 a4 a5:Int):culetref28_Print a0 a1 a2 a3 a4 a5=direction_Print a0 a1 a2 a3 a4 a5:=rfl
theorem DirectionOf.law (u0 u1 v0 v1 a0 a1 a2 a3 a4 a5:Int):Dg u0 u1 v0 v1 a0 a1 a2 a3 a4 a5=true:=by
 simp only [Dg,Dg.K,id_eq,PY,Pf,Dz.eq,Dv.eq,Dq.eq,Dd.eq,Ci.eq,Ca.eq,Bo.eq,Bi.eq,beq_self_eq_true,bne_self_eq_false,Bool.and_self,zN,cond_true,cond_false]
theorem Dg.calls (A7:Int) (AA:Int) (AC:Int) (AB:Int) (AV:Int) (AU:Int) (DQ:Int) (DP:Int) (DO:Int) (DN:Int) (h:Dg A7 AA AC AB AV AU DQ DP DO DN=true) (w:World) (ht:TabOk w):Calls Tryz.prog 9 ⟨[.agg ⟨[.int .i64 A7,.int .i64 AA]⟩,.agg ⟨[.int .i64 AC,.int .i64 AB]⟩,.agg ⟨[.int .i64 AV,.int .i64 AU,.int .i64 DQ,.int .i64 DP,.int .i64 DO,.int .i64 DN]⟩]⟩ w fun e w'=>e= .returned (.bool true)∧Below w.heap.size w w':=by
 refine Q5 (E:=⟨[(10,EQ.sp),(10,EQ.sp),(20,Dz.sp Dz),(21,Ci.sp Ci),(25,Df.sp Df),(34,Bi.sp Bi),(36,Dq.sp Dq),(44,Dv.sp Dv),(45,Dd.sp Dd),(46,Ca.sp Ca),(47,direction_Print.sp direction_Print),(48,culetref28_Print.sp culetref28_Print),(49,Bo.sp Bo)],[],[]⟩) (L:=[]) ⟨(Aa EQ.ok (Aa EQ.ok (Aa Dz.ok (Aa Ci.ok (Aa Df.ok (Aa Bi.ok (Aa Dq.ok (Aa Dv.ok (Aa Dd.ok (Aa Ca.ok (Aa direction_Print.ok (Aa culetref28_Print.ok (Aa Bo.ok Ac))))))))))))),Aq,Aj,Ap⟩ 40 Tryz.func9 (by decide) rfl Bf (vs:=[.agg ⟨[.int .i64 A7,.int .i64 AA]⟩,.agg ⟨[.int .i64 AC,.int .i64 AB]⟩,.agg ⟨[.int .i64 AV,.int .i64 AU,.int .i64 DQ,.int .i64 DP,.int .i64 DO,.int .i64 DN]⟩]) (v:= .bool true) ?_ (by simp [okV,Nat.blt]) (clo_spec 8 _ rfl) w ht
 refine (Dg.run Dz Ci Df Bi Dq Dv Dd Ca direction_Print culetref28_Print Bo A7 AA AC AB AV AU DQ DP DO DN).trans ?_
 rw [Dg.nat]
 have h4:Dg.K Dz Ci Df Bi Dq Dv Dd Ca direction_Print culetref28_Print Bo A7 AA AC AB AV AU DQ DP DO DN id=true:=h
 rw [h4]
end Go.Proofs.YtpejalpgficopaaGreatDoor.G
end
section
namespace Go.Proofs.YtpejalpgficopaaGreatDoor.G
open Go Go.ChangeShapes Go.WideShapes Go.ChangeAt Go.RowKit
theorem tabok {W:World} (h:laidMetH Tryz.prog Rows.directionOfRow.laid W):RX.TabOk W:=by
 rw [MakeChecks.laidMetH_plain _ _ _ (by kernel_rfl)] at h
 have h2:=(laidMet.tail (laidMet.tail h))
 have e:(Rows.laid_internal_strconv_uint64pow10:DataW Unit)=Go.Lib.tabData .u64 Go.Lib.pow10Tab:=by kernel_rfl
 rw [e] at h2
 have hg:∃g,Tryz.prog.globalNamed "internal/strconv.uint64pow10" =some g∧(Tryz.prog.globals[g]?).map (·.type)=some 204:=⟨0,by kernel_rfl,by kernel_rfl⟩
 obtain ⟨g,hg,hty⟩:=hg
 exact Ph (Go.Lib.tabIs_of_head (n:=20) (e:=117) hg hty Tryz.underlying204 Tryz.underlying117 (by kernel_rfl) (by kernel_rfl) h2)
end Go.Proofs.YtpejalpgficopaaGreatDoor.G
end
