/- A part of what the law's proof leans on. PACKED BY pack.py of this repo. -/
import Derived.Test.YtpejalpgficopaaGreatDoorN15
import Derived.Test.YtpejalpgficopaaGreatDoorRows
set_option linter.unusedVariables false
set_option linter.unusedSimpArgs false
set_option linter.defProp false
set_option linter.unusedSectionVars false
section
namespace Go.Proofs.YtpejalpgficopaaGreatDoor.G
set_option maxRecDepth 100000
open Go
theorem z6_ld (m a b:Z6):m*(a+b)=m*a+m*b:=by rw [Z6.mul_comm m (a+b),Z6.add_mul,Z6.mul_comm a m,Z6.mul_comm b m]
theorem z6_mn (m a:Z6):m* -a= -(m*a):=by rw [Z6.mul_comm m (-a),Z6.neg_mul,Z6.mul_comm a m]
theorem cw_scale {m:Z6} (hm:Sg.s m=1) (k:Int) (A B:Z6):cw k (m*A) (m*B)=cw k A B:=by
 unfold cw
 have e:zi k*(m*A)+ -(m*B)=m*(zi k*A+ -B):=by
  rw [z6_ld,z6_mn]
  congr 1
  ac_rfl
 rw [e,sgM,hm,Int.one_mul]
theorem dr_scale {m:Z6} (hm:Sg.s m=1) (A B:Z6):dr (m*A) (m*B)=dr A B:=by
 unfold dr
 simp only [cw_scale hm]
theorem zee {e:Int} (he:e≠0):Sg.s (zi (e*e))=1:=by
 rw [s_zi]
 refine sgn_pos.2 ?_
 rcases Int.lt_or_gt_of_ne he with h|h
 ·exact Int.mul_pos_of_neg_of_neg h h
 ·exact Int.mul_pos h h
theorem dquot_scale {x y:Q} {X D σ τ:Z6} {e:Int} (he:e≠0) (hx:Rep x (zi e*X) D) (hy:Rep y (zi (e*e)*σ) τ) (ox:x.ok=true) (oy:y.ok=true) (hσ:Sg.s σ=1):
  dquot x y=dchk (dlh (dr (D*D*σ) (X*X*τ*zi KK)) (decide (cw (dr (D*D*σ) (X*X*τ*zi KK)*dr (D*D*σ) (X*X*τ*zi KK)) (D*D*σ) (X*X*τ*zi KK)<0)) (decide (x.sg<0))):=by
 have hm:=zee he
 have hσ':Sg.s (zi (e*e)*σ)=1:=by rw [sgM,hm,hσ]; rfl
 rw [dquot_rep hx hy ox oy hσ']
 have e1:D*D*(zi (e*e)*σ)=zi (e*e)*(D*D*σ):=by ac_rfl
 have e2:zi e*X*(zi e*X)*τ*zi KK=zi (e*e)*(X*X*τ*zi KK):=by rw [zi_mul e e]; ac_rfl
 rw [e1,e2,dr_scale hm,cw_scale hm]
theorem qsq_scale {x y z x' y' z':Q} {e:Int} (hx:Rep x' (zi e*wv x) (zi x.d)) (hy:Rep y' (zi e*wv y) (zi y.d)) (hz:Rep z' (zi e*wv z) (zi z.d)) (ox:x'.ok=true) (oy:y'.ok=true) (oz:z'.ok=true):
  Rep (qsq x' y' z') (zi (e*e)*sgm (wv x*wv x) (wv y*wv y) (wv z*wv z) (zi x.d*zi x.d) (zi y.d*zi y.d) (zi z.d*zi z.d)) ((zi x.d*zi x.d)*(zi y.d*zi y.d)*(zi z.d*zi z.d)):=by
 have h:Rep (qsq x' y' z') (sgm (zi e*wv x*(zi e*wv x)) (zi e*wv y*(zi e*wv y)) (zi e*wv z*(zi e*wv z)) (zi x.d*zi x.d) (zi y.d*zi y.d) (zi z.d*zi z.d)) ((zi x.d*zi x.d)*(zi y.d*zi y.d)*(zi z.d*zi z.d)):=
  ((hx.mul hx ox ox).add (hy.mul hy oy oy) (qmul_ok ox ox) (qmul_ok oy oy)).add (hz.mul hz oz oz) (qadd_ok (qmul_ok ox ox) (qmul_ok oy oy)) (qmul_ok oz oz)
 have e1:sgm (zi e*wv x*(zi e*wv x)) (zi e*wv y*(zi e*wv y)) (zi e*wv z*(zi e*wv z)) (zi x.d*zi x.d) (zi y.d*zi y.d) (zi z.d*zi z.d)=zi (e*e)*sgm (wv x*wv x) (wv y*wv y) (wv z*wv z) (zi x.d*zi x.d) (zi y.d*zi y.d) (zi z.d*zi z.d):=by
  rw [sgm_eq,sgm_eq,z6_ld,z6_ld,zi_mul e e]
  congr 1
  ·congr 1<;>ac_rfl
  ·ac_rfl
 rw [e1] at h
 exact h
def opp (t:Int×Int×Int):Int×Int×Int:=(-t.2.1,-t.1,t.2.2)
theorem dchk_opp (n:Int) (i s:Bool):dchk (dlh n i (!s))=opp (dchk (dlh n i s)):=by
 have k:∀a b:Int,dchk (-b,-a)=opp (dchk (a,b)):=fun a b=>by
  unfold dchk opp
  have e1:decide (-1073741824≤(-b,-a).1)=decide (b≤1073741824):=decide_eq_decide.2 (by simp only; omega)
  have e2:decide ((-b,-a).2≤1073741824)=decide (-1073741824≤a):=decide_eq_decide.2 (by simp only; omega)
  rw [e1,e2,Bool.and_comm]
  cases (decide (-1073741824≤a)&&decide (b≤1073741824))<;>rfl
 unfold dlh
 cases i<;>cases s
 ·exact k n n
 ·have:=k (-n) (-n); rw [Int.neg_neg] at this; exact this
 ·exact k n (n+1)
 ·have:=k (-(n+1)) (-n); rw [Int.neg_neg,Int.neg_neg] at this; exact this
theorem dchk_bd (r:Int×Int) (h:r.1≤r.2): -1073741824≤(dchk r).1∧(dchk r).1≤1073741824∧ -1073741824≤(dchk r).2.1∧(dchk r).2.1≤1073741824:=by
 unfold dchk
 cases h1:decide (-1073741824≤r.1)&&decide (r.2≤1073741824) with
 |false=>rw [cond_false]; exact ⟨by decide,by decide,by decide,by decide⟩
 | true=>
  simp only [Bool.and_eq_true,decide_eq_true_eq] at h1
  simp only [cond_true]; omega
theorem dlh_le (n:Int) (i s:Bool):(dlh n i s).1≤(dlh n i s).2:=by
 unfold dlh
 cases i<;>cases s<;>simp only [cond_true,cond_false]<;>omega
theorem rep_sg {x x':Q} {e:Int} (hx:Rep x' (zi e*wv x) (zi x.d)) (ox:x.ok=true) (ox':x'.ok=true):x'.sg=sgn e*x.sg:=by
 have h1:=hx.sg ox'
 have h2:=(Rep.self ox).sg ox
 rw [h1,h2,sgM,s_zi,Int.mul_assoc]
theorem dquot_turn {x x' s s':Q} {σ τ:Z6} {e:Int} (he:e≠0) (hx:Rep x' (zi e*wv x) (zi x.d)) (hs:Rep s σ τ) (hs':Rep s' (zi (e*e)*σ) τ) (ox:x.ok=true) (ox':x'.ok=true) (os:s.ok=true) (os':s'.ok=true) (hσ:Sg.s σ=1) (hτ:Sg.s τ=1):
  (0<e→dquot x' s'=dquot x s)∧(e<0→dquot x' s'=opp (dquot x s)):=by
 have hg:=rep_sg hx ox ox'
 have h1:=dquot_scale he hx hs' ox' os' hσ
 have h2:=dquot_rep (Rep.self ox) hs ox os hσ
 constructor
 ·intro hp
  rw [sgn_pos.2 hp,Int.one_mul] at hg
  rw [h1,h2,hg]
 ·intro hp
  rw [sgn_neg1.2 hp] at hg
  rw [h1,h2]
  have hA:Sg.s (zi x.d*zi x.d*σ)=1:=by rw [sgM,hσ,s_sq (Rep.self ox).nz]; rfl
  have hB:0≤Sg.s (wv x*wv x*τ*zi KK):=by
   rw [sgM,sgM,hτ,s_zi]; show 0≤Sg.s (wv x*wv x)*1*1; rw [Int.mul_one,Int.mul_one]; exact s_sq_nonneg _
  obtain ⟨d1,d2,d3,d4⟩:=dr_spec hA hB
  by_cases hz:x.sg=0
  ·have w0:wv x=Sg.o:=sgZ _ (by rw [←sg_wv]; exact hz)
   have eB:wv x*wv x*τ*zi KK=Sg.o:=sgZ _ (by rw [sgM,sgM,sgM,←sg_wv,hz]; simp)
   have hn:dr (zi x.d*zi x.d*σ) (wv x*wv x*τ*zi KK)=0:=by
    rw [eB] at d3 d1 ⊢
    generalize dr (zi x.d*zi x.d*σ) Sg.o=n at*
    have hc:cw (n*n) (zi x.d*zi x.d*σ) Sg.o=sgn (n*n):=by
     unfold cw
     have:(-(Sg.o:Z6))=Sg.o:=rfl
     rw [this,Z6.add_comm,o_add,sgM,hA,s_zi,Int.mul_one]
    rw [hc] at d3
    by_cases hn:n=0
    ·exact hn
    ·have:=sgn_pos.2 (Int.mul_pos (show 0<n by omega) (show 0<n by omega)); omega
   have hi:decide (cw (dr (zi x.d*zi x.d*σ) (wv x*wv x*τ*zi KK)*dr (zi x.d*zi x.d*σ) (wv x*wv x*τ*zi KK)) (zi x.d*zi x.d*σ) (wv x*wv x*τ*zi KK)<0)=false:=by
    rw [hn,eB]
    refine decide_eq_false ?_
    unfold cw
    have:(-(Sg.o:Z6))=Sg.o:=rfl
    rw [this,Z6.add_comm,o_add,sgM,s_zi]
    show ¬(0:Int)*_<0
    omega
   rw [hi,hn]
   cases decide (x'.sg<0)<;>cases decide (x.sg<0)<;>decide
  ·have:decide (x'.sg<0)= !decide (x.sg<0):=by
    rw [hg]
    cases h:decide (x.sg<0) with
    |true=>simp only [decide_eq_true_eq] at h; rw [Bool.not_true]; exact decide_eq_false (by omega)
    |false=>simp only [decide_eq_false_iff_not] at h; rw [Bool.not_false]; exact decide_eq_true (by omega)
   rw [this,dchk_opp]
theorem dquot_bd {x s:Q} {σ τ:Z6} (hs:Rep s σ τ) (ox:x.ok=true) (os:s.ok=true) (hσ:Sg.s σ=1): -1073741824≤(dquot x s).1∧(dquot x s).1≤1073741824∧ -1073741824≤(dquot x s).2.1∧(dquot x s).2.1≤1073741824:=by
 rw [dquot_rep (Rep.self ox) hs ox os hσ]
 exact dchk_bd _ (dlh_le _ _ _)
theorem rep_more {x:Q} (ox:x.ok=true) (c:Int):Rep (qmul x (qof c)) (zi c*wv x) (zi x.d):=by
 refine ((Rep.self ox).mul (Rep.of c) ox (qof_ok c)).conv (Rep.self ox).nz ?_
 rw [one_zi,Z6.mul_comm (wv x)]
theorem rep_less (x:Q) (ox:x.ok=true):Rep (qneg x) (zi (-1)*wv x) (zi x.d):=by
 have h:=(Rep.self ox).neg
 have e:zi (-1)*wv x= -wv x:=by rw [zi_neg,Z6.neg_mul,zi_one]
 rw [e]; exact h
end Go.Proofs.YtpejalpgficopaaGreatDoor.G
end
section
namespace Go.Proofs.YtpejalpgficopaaGreatDoor.G
set_option maxRecDepth 100000
open Go Go.Proofs Go.RowKit RX
section
variable {R:Type} (D7:TF20 (Bool)) (D5:TF20 Bool) (DW:TF30 (TY5)) (DT:TF30 Bool) (C1:TF10 (Int×Int×Int)) (C0:TF10 Bool) (A3:Bool) (A2:ByteArray) (A6:Bool) (A5:ByteArray) (A4:Bool) (A9:ByteArray) (A8:Bool) (A7:ByteArray) (AB:Bool) (AA:ByteArray) (B5:Bool) (B4:ByteArray) (B3:Bool) (B2:ByteArray) (AZ:Bool) (AY:ByteArray) (AX:Bool) (AW:ByteArray) (AV:Bool) (AU:ByteArray) (AT:Bool) (AS:ByteArray) (AR:Bool) (AQ:ByteArray) (AP:Bool) (AO:ByteArray) (AN:Bool) (AM:ByteArray) (AL:Bool) (AK:ByteArray) (BJ:Bool) (BI:ByteArray) (BH:Bool) (BG:ByteArray) (BF:Bool) (BE:ByteArray) (BD:Bool) (BC:ByteArray) (BB:Bool) (BA:ByteArray)
noncomputable def direction_Distance.K (k:Int×Int×Int→Option R):Option R:=
 let t0:=D5 A3 A2 A6 A5 A4 A9 A8 A7 AB AA B5 B4 B3 B2 AZ AY AX AW AV AU AT AS AR AQ AP AO AN AM AL AK BJ BI BH BG BF BE BD BC BB BA
 bif t0 then
 let t1:=D7 A3 A2 A6 A5 A4 A9 A8 A7 AB AA B5 B4 B3 B2 AZ AY AX AW AV AU AT AS AR AQ AP AO AN AM AL AK BJ BI BH BG BF BE BD BC BB BA
 bif !t1 then k (0,0,1) else
 let t2:=DT A3 A2 A6 A5 A4 A9 A8 A7 AB AA B5 B4 B3 B2 AZ AY AX AW AV AU AT AS AR AQ AP AO AN AM AL AK A3 A2 A6 A5 A4 A9 A8 A7 AB AA B5 B4 B3 B2 AZ AY AX AW AV AU AT AS AR AQ AP AO AN AM AL AK
 bif t2 then
 let t3:=DW A3 A2 A6 A5 A4 A9 A8 A7 AB AA B5 B4 B3 B2 AZ AY AX AW AV AU AT AS AR AQ AP AO AN AM AL AK A3 A2 A6 A5 A4 A9 A8 A7 AB AA B5 B4 B3 B2 AZ AY AX AW AV AU AT AS AR AQ AP AO AN AM AL AK
 let t4:=C0 BJ BI BH BG BF BE BD BC BB BA t3.1 t3.2.1 t3.2.2.1 t3.2.2.2.1 t3.2.2.2.2.1 t3.2.2.2.2.2.1 t3.2.2.2.2.2.2.1 t3.2.2.2.2.2.2.2.1 t3.2.2.2.2.2.2.2.2.1 t3.2.2.2.2.2.2.2.2.2
 bif t4 then
 let t5:=C1 BJ BI BH BG BF BE BD BC BB BA t3.1 t3.2.1 t3.2.2.1 t3.2.2.2.1 t3.2.2.2.2.1 t3.2.2.2.2.2.1 t3.2.2.2.2.2.2.1 t3.2.2.2.2.2.2.2.1 t3.2.2.2.2.2.2.2.2.1 t3.2.2.2.2.2.2.2.2.2
 k (t5.1,t5.2.1,t5.2.2) else none else none else none
theorem direction_Distance.run:xfn Tryz.prog ⟨[(60,plane_Valid.sp D7 D5),(61,vector_Dot.sp DW DT),(63,direction_quotient.sp C1 C0)],[],[]⟩ [] 60 Tryz.f19 [.agg ⟨.bool A3:: .string A2:: .bool A6:: .string A5:: .bool A4:: .string A9:: .bool A8:: .string A7:: .bool AB:: .string AA:: .bool B5:: .string B4:: .bool B3:: .string B2:: .bool AZ:: .string AY:: .bool AX:: .string AW:: .bool AV:: .string AU:: .bool AT:: .string AS:: .bool AR:: .string AQ:: .bool AP:: .string AO:: .bool AN:: .string AM:: .bool AL:: .string AK:: .bool BJ:: .string BI:: .bool BH:: .string BG:: .bool BF:: .string BE:: .bool BD:: .string BC:: .bool BB:: .string BA::[]⟩] []=direction_Distance.K D7 D5 DW DT C1 C0 A3 A2 A6 A5 A4 A9 A8 A7 AB AA B5 B4 B3 B2 AZ AY AX AW AV AU AT AS AR AQ AP AO AN AM AL AK BJ BI BH BG BF BE BD BC BB BA (fun r=>some (.tuple ⟨[.agg ⟨[.int .i64 r.1,.int .i64 r.2.1]⟩,.int .i64 r.2.2]⟩,[])):=by kernel_rfl
noncomputable def direction_Distance.o:Option (Int×Int×Int):=direction_Distance.K plane_Valid plane_Valid.pre vector_Dot vector_Dot.pre direction_quotient direction_quotient.pre A3 A2 A6 A5 A4 A9 A8 A7 AB AA B5 B4 B3 B2 AZ AY AX AW AV AU AT AS AR AQ AP AO AN AM AL AK BJ BI BH BG BF BE BD BC BB BA some
noncomputable def direction_Distance.pre:Bool:=(direction_Distance.o A3 A2 A6 A5 A4 A9 A8 A7 AB AA B5 B4 B3 B2 AZ AY AX AW AV AU AT AS AR AQ AP AO AN AM AL AK BJ BI BH BG BF BE BD BC BB BA).isSome
noncomputable def direction_Distance:Int×Int×Int:=(direction_Distance.o A3 A2 A6 A5 A4 A9 A8 A7 AB AA B5 B4 B3 B2 AZ AY AX AW AV AU AT AS AR AQ AP AO AN AM AL AK BJ BI BH BG BF BE BD BC BB BA).getD default
theorem direction_Distance.nat (k:Int×Int×Int→Option R):direction_Distance.K D7 D5 DW DT C1 C0 A3 A2 A6 A5 A4 A9 A8 A7 AB AA B5 B4 B3 B2 AZ AY AX AW AV AU AT AS AR AQ AP AO AN AM AL AK BJ BI BH BG BF BE BD BC BB BA k=(direction_Distance.K D7 D5 DW DT C1 C0 A3 A2 A6 A5 A4 A9 A8 A7 AB AA B5 B4 B3 B2 AZ AY AX AW AV AU AT AS AR AQ AP AO AN AM AL AK BJ BI BH BG BF BE BD BC BB BA some).bind k:=by
 simp only [direction_Distance.K,bcond,Option.bind_some,Option.bind_none]
theorem direction_Distance.os {k:Nat} {x y z q:Q} (hx:x.Bd k) (hy:y.Bd k) (hz:z.Bd k) (hq:q.Bd k) (hk:k≤1000) (ox:x.ok=true) (oy:y.ok=true) (oz:z.ok=true) (oq:q.ok=true) (hn:(x.nul&&(y.nul&&z.nul))=false):direction_Distance.o (dI x.c0).1 (dI x.c0).2 (dI x.c1).1 (dI x.c1).2 (dI x.c2).1 (dI x.c2).2 (dI x.c3).1 (dI x.c3).2 (dI x.d).1 (dI x.d).2 (dI y.c0).1 (dI y.c0).2 (dI y.c1).1 (dI y.c1).2 (dI y.c2).1 (dI y.c2).2 (dI y.c3).1 (dI y.c3).2 (dI y.d).1 (dI y.d).2 (dI z.c0).1 (dI z.c0).2 (dI z.c1).1 (dI z.c1).2 (dI z.c2).1 (dI z.c2).2 (dI z.c3).1 (dI z.c3).2 (dI z.d).1 (dI z.d).2 (dI q.c0).1 (dI q.c0).2 (dI q.c1).1 (dI q.c1).2 (dI q.c2).1 (dI q.c2).2 (dI q.c3).1 (dI q.c3).2 (dI q.d).1 (dI q.d).2=some (dquot q (qsq x y z)):=by
 have hL:k≤LIM:=by unfold LIM; omega
 have sb:=qsq_bd hx hy hz ox oy oz
 have hb:4*k+14*(6*k+17)+200≤PRM:=by unfold PRM; omega
 simp only [direction_Distance.o,direction_Distance.K,plane_Valid.ps hx hy hz hq hL ox oy oz oq,plane_Valid.es hx hy hz hq hL ox oy oz oq,hn,Bool.not_false,Bool.not_true,cond_true,cond_false,vector_Dot.ps hx hy hz (by omega) ox oy oz,vector_Dot.es hx hy hz (by omega) ox oy oz,C5,direction_quotient.ps hq sb (by omega) hb,direction_quotient.es hq sb (by omega) hb]
theorem direction_Distance.ps {k:Nat} {x y z q:Q} (hx:x.Bd k) (hy:y.Bd k) (hz:z.Bd k) (hq:q.Bd k) (hk:k≤1000) (ox:x.ok=true) (oy:y.ok=true) (oz:z.ok=true) (oq:q.ok=true) (hn:(x.nul&&(y.nul&&z.nul))=false):direction_Distance.pre (dI x.c0).1 (dI x.c0).2 (dI x.c1).1 (dI x.c1).2 (dI x.c2).1 (dI x.c2).2 (dI x.c3).1 (dI x.c3).2 (dI x.d).1 (dI x.d).2 (dI y.c0).1 (dI y.c0).2 (dI y.c1).1 (dI y.c1).2 (dI y.c2).1 (dI y.c2).2 (dI y.c3).1 (dI y.c3).2 (dI y.d).1 (dI y.d).2 (dI z.c0).1 (dI z.c0).2 (dI z.c1).1 (dI z.c1).2 (dI z.c2).1 (dI z.c2).2 (dI z.c3).1 (dI z.c3).2 (dI z.d).1 (dI z.d).2 (dI q.c0).1 (dI q.c0).2 (dI q.c1).1 (dI q.c1).2 (dI q.c2).1 (dI q.c2).2 (dI q.c3).1 (dI q.c3).2 (dI q.d).1 (dI q.d).2=true:=isSome_of (direction_Distance.os hx hy hz hq hk ox oy oz oq hn)
theorem direction_Distance.es {k:Nat} {x y z q:Q} (hx:x.Bd k) (hy:y.Bd k) (hz:z.Bd k) (hq:q.Bd k) (hk:k≤1000) (ox:x.ok=true) (oy:y.ok=true) (oz:z.ok=true) (oq:q.ok=true) (hn:(x.nul&&(y.nul&&z.nul))=false):direction_Distance (dI x.c0).1 (dI x.c0).2 (dI x.c1).1 (dI x.c1).2 (dI x.c2).1 (dI x.c2).2 (dI x.c3).1 (dI x.c3).2 (dI x.d).1 (dI x.d).2 (dI y.c0).1 (dI y.c0).2 (dI y.c1).1 (dI y.c1).2 (dI y.c2).1 (dI y.c2).2 (dI y.c3).1 (dI y.c3).2 (dI y.d).1 (dI y.d).2 (dI z.c0).1 (dI z.c0).2 (dI z.c1).1 (dI z.c1).2 (dI z.c2).1 (dI z.c2).2 (dI z.c3).1 (dI z.c3).2 (dI z.d).1 (dI z.d).2 (dI q.c0).1 (dI q.c0).2 (dI q.c1).1 (dI q.c1).2 (dI q.c2).1 (dI q.c2).2 (dI q.c3).1 (dI q.c3).2 (dI q.d).1 (dI q.d).2=dquot q (qsq x y z):=getD_of (direction_Distance.os hx hy hz hq hk ox oy oz oq hn)
end
theorem direction_Distance.ok:SOK Tryz.prog 19 (direction_Distance.sp direction_Distance direction_Distance.pre):=by
 refine sok_of (E:=⟨[(60,plane_Valid.sp plane_Valid plane_Valid.pre),(61,vector_Dot.sp vector_Dot vector_Dot.pre),(63,direction_quotient.sp direction_quotient direction_quotient.pre)],[],[]⟩) (L:=[]) ⟨(specs_cons plane_Valid.ok (specs_cons vector_Dot.ok (specs_cons direction_quotient.ok specs_nil))),inl_nil,mixed_ok,lps_nil⟩ 60 Tryz.func19 (by decide) rfl no_loops fun vs bl v bl' h=> ?_
 unfold direction_Distance.sp at h
 split at h
 ·rename_i A3 A2 A6 A5 A4 A9 A8 A7 AB AA B5 B4 B3 B2 AZ AY AX AW AV AU AT AS AR AQ AP AO AN AM AL AK BJ BI BH BG BF BE BD BC BB BA
  simp only [Option.some.injEq,Prod.mk.injEq] at h
  obtain ⟨hp,rfl,rfl⟩:=h
  have hr:=direction_Distance.run plane_Valid plane_Valid.pre vector_Dot vector_Dot.pre direction_quotient direction_quotient.pre A3 A2 A6 A5 A4 A9 A8 A7 AB AA B5 B4 B3 B2 AZ AY AX AW AV AU AT AS AR AQ AP AO AN AM AL AK BJ BI BH BG BF BE BD BC BB BA
  rw [direction_Distance.nat] at hr
  obtain ⟨r,h2⟩:=Option.isSome_iff_exists.1 (hp:(direction_Distance.o A3 A2 A6 A5 A4 A9 A8 A7 AB AA B5 B4 B3 B2 AZ AY AX AW AV AU AT AS AR AQ AP AO AN AM AL AK BJ BI BH BG BF BE BD BC BB BA).isSome=true)
  have h3:direction_Distance A3 A2 A6 A5 A4 A9 A8 A7 AB AA B5 B4 B3 B2 AZ AY AX AW AV AU AT AS AR AQ AP AO AN AM AL AK BJ BI BH BG BF BE BD BC BB BA=r:=by unfold direction_Distance; rw [h2]; rfl
  have h4:direction_Distance.K plane_Valid plane_Valid.pre vector_Dot vector_Dot.pre direction_quotient direction_quotient.pre A3 A2 A6 A5 A4 A9 A8 A7 AB AA B5 B4 B3 B2 AZ AY AX AW AV AU AT AS AR AQ AP AO AN AM AL AK BJ BI BH BG BF BE BD BC BB BA some=some r:=h2
  rw [h4,Option.bind_some] at hr
  rw [h3]
  exact ⟨hr,by simp [okV,Nat.blt],clo_spec 8 _ (by kernel_rfl),told_blk (by kernel_rfl)⟩
 ·cases h
section
variable {R:Type} (EJ:TF20 (Bool)) (EH:TF20 Bool) (E8:TF20 (Bool)) (E5:TF20 Bool) (CF:Int→(TY5)) (CE:Int→Bool) (E9:TF20 (TY15)) (E6:TF20 Bool) (CB:TF10 (TY5)) (C9:TF10 Bool) (EI:TF15 (TY15)) (EG:TF15 Bool) (CA:TF5 (TY5)) (C8:TF5 Bool) (DX:TF20 (Int×Int×Int×Int×Int×Int×Int)) (DU:TF20 Bool) (D2:TF20 (Int×Int×Int)) (CZ:TF20 Bool) (A3:Bool) (A2:ByteArray) (A6:Bool) (A5:ByteArray) (A4:Bool) (A9:ByteArray) (A8:Bool) (A7:ByteArray) (AB:Bool) (AA:ByteArray) (B5:Bool) (B4:ByteArray) (B3:Bool) (B2:ByteArray) (AZ:Bool) (AY:ByteArray) (AX:Bool) (AW:ByteArray) (AV:Bool) (AU:ByteArray) (AT:Bool) (AS:ByteArray) (AR:Bool) (AQ:ByteArray) (AP:Bool) (AO:ByteArray) (AN:Bool) (AM:ByteArray) (AL:Bool) (AK:ByteArray) (BJ:Bool) (BI:ByteArray) (BH:Bool) (BG:ByteArray) (BF:Bool) (BE:ByteArray) (BD:Bool) (BC:ByteArray) (BB:Bool) (BA:ByteArray) (a1:Int)
noncomputable def culetlaw28_DirectionNormals.K (k:(Bool)→Option R):Option R:=
 let t0:=EH A3 A2 A6 A5 A4 A9 A8 A7 AB AA B5 B4 B3 B2 AZ AY AX AW AV AU AT AS AR AQ AP AO AN AM AL AK BJ BI BH BG BF BE BD BC BB BA
 bif t0 then
 let t1:=EJ A3 A2 A6 A5 A4 A9 A8 A7 AB AA B5 B4 B3 B2 AZ AY AX AW AV AU AT AS AR AQ AP AO AN AM AL AK BJ BI BH BG BF BE BD BC BB BA
 bif !t1 then k (true) else
 let t2:=E5 A3 A2 A6 A5 A4 A9 A8 A7 AB AA B5 B4 B3 B2 AZ AY AX AW AV AU AT AS AR AQ AP AO AN AM AL AK BJ BI BH BG BF BE BD BC BB BA
 bif t2 then
 let t3:=E8 A3 A2 A6 A5 A4 A9 A8 A7 AB AA B5 B4 B3 B2 AZ AY AX AW AV AU AT AS AR AQ AP AO AN AM AL AK BJ BI BH BG BF BE BD BC BB BA
 bif !t3 then k (true) else
 let t4:=CE (IntKind.i64.wrap (1+(IntKind.i64.wrap a1).tmod 9))
 bif t4 then
 let t5:=CF (IntKind.i64.wrap (1+(IntKind.i64.wrap a1).tmod 9))
 let t6:=E6 A3 A2 A6 A5 A4 A9 A8 A7 AB AA B5 B4 B3 B2 AZ AY AX AW AV AU AT AS AR AQ AP AO AN AM AL AK t5.1 t5.2.1 t5.2.2.1 t5.2.2.2.1 t5.2.2.2.2.1 t5.2.2.2.2.2.1 t5.2.2.2.2.2.2.1 t5.2.2.2.2.2.2.2.1 t5.2.2.2.2.2.2.2.2.1 t5.2.2.2.2.2.2.2.2.2
 bif t6 then
 let t7:=C9 BJ BI BH BG BF BE BD BC BB BA t5.1 t5.2.1 t5.2.2.1 t5.2.2.2.1 t5.2.2.2.2.1 t5.2.2.2.2.2.1 t5.2.2.2.2.2.2.1 t5.2.2.2.2.2.2.2.1 t5.2.2.2.2.2.2.2.2.1 t5.2.2.2.2.2.2.2.2.2
 bif t7 then
 let t8:=EG A3 A2 A6 A5 A4 A9 A8 A7 AB AA B5 B4 B3 B2 AZ AY AX AW AV AU AT AS AR AQ AP AO AN AM AL AK
 bif t8 then
 let t9:=C8 BJ BI BH BG BF BE BD BC BB BA
 bif t9 then
 let t10:=DU A3 A2 A6 A5 A4 A9 A8 A7 AB AA B5 B4 B3 B2 AZ AY AX AW AV AU AT AS AR AQ AP AO AN AM AL AK BJ BI BH BG BF BE BD BC BB BA
 bif t10 then
 let t11:=E9 A3 A2 A6 A5 A4 A9 A8 A7 AB AA B5 B4 B3 B2 AZ AY AX AW AV AU AT AS AR AQ AP AO AN AM AL AK t5.1 t5.2.1 t5.2.2.1 t5.2.2.2.1 t5.2.2.2.2.1 t5.2.2.2.2.2.1 t5.2.2.2.2.2.2.1 t5.2.2.2.2.2.2.2.1 t5.2.2.2.2.2.2.2.2.1 t5.2.2.2.2.2.2.2.2.2
 let t12:=CB BJ BI BH BG BF BE BD BC BB BA t5.1 t5.2.1 t5.2.2.1 t5.2.2.2.1 t5.2.2.2.2.1 t5.2.2.2.2.2.1 t5.2.2.2.2.2.2.1 t5.2.2.2.2.2.2.2.1 t5.2.2.2.2.2.2.2.2.1 t5.2.2.2.2.2.2.2.2.2
 let t13:=DU t11.1 t11.2.1 t11.2.2.1 t11.2.2.2.1 t11.2.2.2.2.1 t11.2.2.2.2.2.1 t11.2.2.2.2.2.2.1 t11.2.2.2.2.2.2.2.1 t11.2.2.2.2.2.2.2.2.1 t11.2.2.2.2.2.2.2.2.2.1 t11.2.2.2.2.2.2.2.2.2.2.1 t11.2.2.2.2.2.2.2.2.2.2.2.1 t11.2.2.2.2.2.2.2.2.2.2.2.2.1 t11.2.2.2.2.2.2.2.2.2.2.2.2.2.1 t11.2.2.2.2.2.2.2.2.2.2.2.2.2.2.1 t11.2.2.2.2.2.2.2.2.2.2.2.2.2.2.2.1 t11.2.2.2.2.2.2.2.2.2.2.2.2.2.2.2.2.1 t11.2.2.2.2.2.2.2.2.2.2.2.2.2.2.2.2.2.1 t11.2.2.2.2.2.2.2.2.2.2.2.2.2.2.2.2.2.2.1 t11.2.2.2.2.2.2.2.2.2.2.2.2.2.2.2.2.2.2.2.1 t11.2.2.2.2.2.2.2.2.2.2.2.2.2.2.2.2.2.2.2.2.1 t11.2.2.2.2.2.2.2.2.2.2.2.2.2.2.2.2.2.2.2.2.2.1 t11.2.2.2.2.2.2.2.2.2.2.2.2.2.2.2.2.2.2.2.2.2.2.1 t11.2.2.2.2.2.2.2.2.2.2.2.2.2.2.2.2.2.2.2.2.2.2.2.1 t11.2.2.2.2.2.2.2.2.2.2.2.2.2.2.2.2.2.2.2.2.2.2.2.2.1 t11.2.2.2.2.2.2.2.2.2.2.2.2.2.2.2.2.2.2.2.2.2.2.2.2.2.1 t11.2.2.2.2.2.2.2.2.2.2.2.2.2.2.2.2.2.2.2.2.2.2.2.2.2.2.1 t11.2.2.2.2.2.2.2.2.2.2.2.2.2.2.2.2.2.2.2.2.2.2.2.2.2.2.2.1 t11.2.2.2.2.2.2.2.2.2.2.2.2.2.2.2.2.2.2.2.2.2.2.2.2.2.2.2.2.1 t11.2.2.2.2.2.2.2.2.2.2.2.2.2.2.2.2.2.2.2.2.2.2.2.2.2.2.2.2.2 t12.1 t12.2.1 t12.2.2.1 t12.2.2.2.1 t12.2.2.2.2.1 t12.2.2.2.2.2.1 t12.2.2.2.2.2.2.1 t12.2.2.2.2.2.2.2.1 t12.2.2.2.2.2.2.2.2.1 t12.2.2.2.2.2.2.2.2.2
 bif t13 then
 let t14:=EI A3 A2 A6 A5 A4 A9 A8 A7 AB AA B5 B4 B3 B2 AZ AY AX AW AV AU AT AS AR AQ AP AO AN AM AL AK
 let t15:=CA BJ BI BH BG BF BE BD BC BB BA
 let t16:=DU t14.1 t14.2.1 t14.2.2.1 t14.2.2.2.1 t14.2.2.2.2.1 t14.2.2.2.2.2.1 t14.2.2.2.2.2.2.1 t14.2.2.2.2.2.2.2.1 t14.2.2.2.2.2.2.2.2.1 t14.2.2.2.2.2.2.2.2.2.1 t14.2.2.2.2.2.2.2.2.2.2.1 t14.2.2.2.2.2.2.2.2.2.2.2.1 t14.2.2.2.2.2.2.2.2.2.2.2.2.1 t14.2.2.2.2.2.2.2.2.2.2.2.2.2.1 t14.2.2.2.2.2.2.2.2.2.2.2.2.2.2.1 t14.2.2.2.2.2.2.2.2.2.2.2.2.2.2.2.1 t14.2.2.2.2.2.2.2.2.2.2.2.2.2.2.2.2.1 t14.2.2.2.2.2.2.2.2.2.2.2.2.2.2.2.2.2.1 t14.2.2.2.2.2.2.2.2.2.2.2.2.2.2.2.2.2.2.1 t14.2.2.2.2.2.2.2.2.2.2.2.2.2.2.2.2.2.2.2.1 t14.2.2.2.2.2.2.2.2.2.2.2.2.2.2.2.2.2.2.2.2.1 t14.2.2.2.2.2.2.2.2.2.2.2.2.2.2.2.2.2.2.2.2.2.1 t14.2.2.2.2.2.2.2.2.2.2.2.2.2.2.2.2.2.2.2.2.2.2.1 t14.2.2.2.2.2.2.2.2.2.2.2.2.2.2.2.2.2.2.2.2.2.2.2.1 t14.2.2.2.2.2.2.2.2.2.2.2.2.2.2.2.2.2.2.2.2.2.2.2.2.1 t14.2.2.2.2.2.2.2.2.2.2.2.2.2.2.2.2.2.2.2.2.2.2.2.2.2.1 t14.2.2.2.2.2.2.2.2.2.2.2.2.2.2.2.2.2.2.2.2.2.2.2.2.2.2.1 t14.2.2.2.2.2.2.2.2.2.2.2.2.2.2.2.2.2.2.2.2.2.2.2.2.2.2.2.1 t14.2.2.2.2.2.2.2.2.2.2.2.2.2.2.2.2.2.2.2.2.2.2.2.2.2.2.2.2.1 t14.2.2.2.2.2.2.2.2.2.2.2.2.2.2.2.2.2.2.2.2.2.2.2.2.2.2.2.2.2 t15.1 t15.2.1 t15.2.2.1 t15.2.2.2.1 t15.2.2.2.2.1 t15.2.2.2.2.2.1 t15.2.2.2.2.2.2.1 t15.2.2.2.2.2.2.2.1 t15.2.2.2.2.2.2.2.2.1 t15.2.2.2.2.2.2.2.2.2
 bif t16 then
 let t17:=CZ A3 A2 A6 A5 A4 A9 A8 A7 AB AA B5 B4 B3 B2 AZ AY AX AW AV AU AT AS AR AQ AP AO AN AM AL AK BJ BI BH BG BF BE BD BC BB BA
 bif t17 then
 let t18:=CZ t11.1 t11.2.1 t11.2.2.1 t11.2.2.2.1 t11.2.2.2.2.1 t11.2.2.2.2.2.1 t11.2.2.2.2.2.2.1 t11.2.2.2.2.2.2.2.1 t11.2.2.2.2.2.2.2.2.1 t11.2.2.2.2.2.2.2.2.2.1 t11.2.2.2.2.2.2.2.2.2.2.1 t11.2.2.2.2.2.2.2.2.2.2.2.1 t11.2.2.2.2.2.2.2.2.2.2.2.2.1 t11.2.2.2.2.2.2.2.2.2.2.2.2.2.1 t11.2.2.2.2.2.2.2.2.2.2.2.2.2.2.1 t11.2.2.2.2.2.2.2.2.2.2.2.2.2.2.2.1 t11.2.2.2.2.2.2.2.2.2.2.2.2.2.2.2.2.1 t11.2.2.2.2.2.2.2.2.2.2.2.2.2.2.2.2.2.1 t11.2.2.2.2.2.2.2.2.2.2.2.2.2.2.2.2.2.2.1 t11.2.2.2.2.2.2.2.2.2.2.2.2.2.2.2.2.2.2.2.1 t11.2.2.2.2.2.2.2.2.2.2.2.2.2.2.2.2.2.2.2.2.1 t11.2.2.2.2.2.2.2.2.2.2.2.2.2.2.2.2.2.2.2.2.2.1 t11.2.2.2.2.2.2.2.2.2.2.2.2.2.2.2.2.2.2.2.2.2.2.1 t11.2.2.2.2.2.2.2.2.2.2.2.2.2.2.2.2.2.2.2.2.2.2.2.1 t11.2.2.2.2.2.2.2.2.2.2.2.2.2.2.2.2.2.2.2.2.2.2.2.2.1 t11.2.2.2.2.2.2.2.2.2.2.2.2.2.2.2.2.2.2.2.2.2.2.2.2.2.1 t11.2.2.2.2.2.2.2.2.2.2.2.2.2.2.2.2.2.2.2.2.2.2.2.2.2.2.1 t11.2.2.2.2.2.2.2.2.2.2.2.2.2.2.2.2.2.2.2.2.2.2.2.2.2.2.2.1 t11.2.2.2.2.2.2.2.2.2.2.2.2.2.2.2.2.2.2.2.2.2.2.2.2.2.2.2.2.1 t11.2.2.2.2.2.2.2.2.2.2.2.2.2.2.2.2.2.2.2.2.2.2.2.2.2.2.2.2.2 t12.1 t12.2.1 t12.2.2.1 t12.2.2.2.1 t12.2.2.2.2.1 t12.2.2.2.2.2.1 t12.2.2.2.2.2.2.1 t12.2.2.2.2.2.2.2.1 t12.2.2.2.2.2.2.2.2.1 t12.2.2.2.2.2.2.2.2.2
 bif t18 then
 let t19:=CZ t14.1 t14.2.1 t14.2.2.1 t14.2.2.2.1 t14.2.2.2.2.1 t14.2.2.2.2.2.1 t14.2.2.2.2.2.2.1 t14.2.2.2.2.2.2.2.1 t14.2.2.2.2.2.2.2.2.1 t14.2.2.2.2.2.2.2.2.2.1 t14.2.2.2.2.2.2.2.2.2.2.1 t14.2.2.2.2.2.2.2.2.2.2.2.1 t14.2.2.2.2.2.2.2.2.2.2.2.2.1 t14.2.2.2.2.2.2.2.2.2.2.2.2.2.1 t14.2.2.2.2.2.2.2.2.2.2.2.2.2.2.1 t14.2.2.2.2.2.2.2.2.2.2.2.2.2.2.2.1 t14.2.2.2.2.2.2.2.2.2.2.2.2.2.2.2.2.1 t14.2.2.2.2.2.2.2.2.2.2.2.2.2.2.2.2.2.1 t14.2.2.2.2.2.2.2.2.2.2.2.2.2.2.2.2.2.2.1 t14.2.2.2.2.2.2.2.2.2.2.2.2.2.2.2.2.2.2.2.1 t14.2.2.2.2.2.2.2.2.2.2.2.2.2.2.2.2.2.2.2.2.1 t14.2.2.2.2.2.2.2.2.2.2.2.2.2.2.2.2.2.2.2.2.2.1 t14.2.2.2.2.2.2.2.2.2.2.2.2.2.2.2.2.2.2.2.2.2.2.1 t14.2.2.2.2.2.2.2.2.2.2.2.2.2.2.2.2.2.2.2.2.2.2.2.1 t14.2.2.2.2.2.2.2.2.2.2.2.2.2.2.2.2.2.2.2.2.2.2.2.2.1 t14.2.2.2.2.2.2.2.2.2.2.2.2.2.2.2.2.2.2.2.2.2.2.2.2.2.1 t14.2.2.2.2.2.2.2.2.2.2.2.2.2.2.2.2.2.2.2.2.2.2.2.2.2.2.1 t14.2.2.2.2.2.2.2.2.2.2.2.2.2.2.2.2.2.2.2.2.2.2.2.2.2.2.2.1 t14.2.2.2.2.2.2.2.2.2.2.2.2.2.2.2.2.2.2.2.2.2.2.2.2.2.2.2.2.1 t14.2.2.2.2.2.2.2.2.2.2.2.2.2.2.2.2.2.2.2.2.2.2.2.2.2.2.2.2.2 t15.1 t15.2.1 t15.2.2.1 t15.2.2.2.1 t15.2.2.2.2.1 t15.2.2.2.2.2.1 t15.2.2.2.2.2.2.1 t15.2.2.2.2.2.2.2.1 t15.2.2.2.2.2.2.2.2.1 t15.2.2.2.2.2.2.2.2.2
 bif t19 then
 let t20:=DX A3 A2 A6 A5 A4 A9 A8 A7 AB AA B5 B4 B3 B2 AZ AY AX AW AV AU AT AS AR AQ AP AO AN AM AL AK BJ BI BH BG BF BE BD BC BB BA
 bif t20.2.2.2.2.2.2 !=0 then k (false) else
 let t21:=DX t11.1 t11.2.1 t11.2.2.1 t11.2.2.2.1 t11.2.2.2.2.1 t11.2.2.2.2.2.1 t11.2.2.2.2.2.2.1 t11.2.2.2.2.2.2.2.1 t11.2.2.2.2.2.2.2.2.1 t11.2.2.2.2.2.2.2.2.2.1 t11.2.2.2.2.2.2.2.2.2.2.1 t11.2.2.2.2.2.2.2.2.2.2.2.1 t11.2.2.2.2.2.2.2.2.2.2.2.2.1 t11.2.2.2.2.2.2.2.2.2.2.2.2.2.1 t11.2.2.2.2.2.2.2.2.2.2.2.2.2.2.1 t11.2.2.2.2.2.2.2.2.2.2.2.2.2.2.2.1 t11.2.2.2.2.2.2.2.2.2.2.2.2.2.2.2.2.1 t11.2.2.2.2.2.2.2.2.2.2.2.2.2.2.2.2.2.1 t11.2.2.2.2.2.2.2.2.2.2.2.2.2.2.2.2.2.2.1 t11.2.2.2.2.2.2.2.2.2.2.2.2.2.2.2.2.2.2.2.1 t11.2.2.2.2.2.2.2.2.2.2.2.2.2.2.2.2.2.2.2.2.1 t11.2.2.2.2.2.2.2.2.2.2.2.2.2.2.2.2.2.2.2.2.2.1 t11.2.2.2.2.2.2.2.2.2.2.2.2.2.2.2.2.2.2.2.2.2.2.1 t11.2.2.2.2.2.2.2.2.2.2.2.2.2.2.2.2.2.2.2.2.2.2.2.1 t11.2.2.2.2.2.2.2.2.2.2.2.2.2.2.2.2.2.2.2.2.2.2.2.2.1 t11.2.2.2.2.2.2.2.2.2.2.2.2.2.2.2.2.2.2.2.2.2.2.2.2.2.1 t11.2.2.2.2.2.2.2.2.2.2.2.2.2.2.2.2.2.2.2.2.2.2.2.2.2.2.1 t11.2.2.2.2.2.2.2.2.2.2.2.2.2.2.2.2.2.2.2.2.2.2.2.2.2.2.2.1 t11.2.2.2.2.2.2.2.2.2.2.2.2.2.2.2.2.2.2.2.2.2.2.2.2.2.2.2.2.1 t11.2.2.2.2.2.2.2.2.2.2.2.2.2.2.2.2.2.2.2.2.2.2.2.2.2.2.2.2.2 t12.1 t12.2.1 t12.2.2.1 t12.2.2.2.1 t12.2.2.2.2.1 t12.2.2.2.2.2.1 t12.2.2.2.2.2.2.1 t12.2.2.2.2.2.2.2.1 t12.2.2.2.2.2.2.2.2.1 t12.2.2.2.2.2.2.2.2.2
 bif t21.2.2.2.2.2.2 !=0 then k (false) else
 let t22:=DX t14.1 t14.2.1 t14.2.2.1 t14.2.2.2.1 t14.2.2.2.2.1 t14.2.2.2.2.2.1 t14.2.2.2.2.2.2.1 t14.2.2.2.2.2.2.2.1 t14.2.2.2.2.2.2.2.2.1 t14.2.2.2.2.2.2.2.2.2.1 t14.2.2.2.2.2.2.2.2.2.2.1 t14.2.2.2.2.2.2.2.2.2.2.2.1 t14.2.2.2.2.2.2.2.2.2.2.2.2.1 t14.2.2.2.2.2.2.2.2.2.2.2.2.2.1 t14.2.2.2.2.2.2.2.2.2.2.2.2.2.2.1 t14.2.2.2.2.2.2.2.2.2.2.2.2.2.2.2.1 t14.2.2.2.2.2.2.2.2.2.2.2.2.2.2.2.2.1 t14.2.2.2.2.2.2.2.2.2.2.2.2.2.2.2.2.2.1 t14.2.2.2.2.2.2.2.2.2.2.2.2.2.2.2.2.2.2.1 t14.2.2.2.2.2.2.2.2.2.2.2.2.2.2.2.2.2.2.2.1 t14.2.2.2.2.2.2.2.2.2.2.2.2.2.2.2.2.2.2.2.2.1 t14.2.2.2.2.2.2.2.2.2.2.2.2.2.2.2.2.2.2.2.2.2.1 t14.2.2.2.2.2.2.2.2.2.2.2.2.2.2.2.2.2.2.2.2.2.2.1 t14.2.2.2.2.2.2.2.2.2.2.2.2.2.2.2.2.2.2.2.2.2.2.2.1 t14.2.2.2.2.2.2.2.2.2.2.2.2.2.2.2.2.2.2.2.2.2.2.2.2.1 t14.2.2.2.2.2.2.2.2.2.2.2.2.2.2.2.2.2.2.2.2.2.2.2.2.2.1 t14.2.2.2.2.2.2.2.2.2.2.2.2.2.2.2.2.2.2.2.2.2.2.2.2.2.2.1 t14.2.2.2.2.2.2.2.2.2.2.2.2.2.2.2.2.2.2.2.2.2.2.2.2.2.2.2.1 t14.2.2.2.2.2.2.2.2.2.2.2.2.2.2.2.2.2.2.2.2.2.2.2.2.2.2.2.2.1 t14.2.2.2.2.2.2.2.2.2.2.2.2.2.2.2.2.2.2.2.2.2.2.2.2.2.2.2.2.2 t15.1 t15.2.1 t15.2.2.1 t15.2.2.2.1 t15.2.2.2.2.1 t15.2.2.2.2.2.1 t15.2.2.2.2.2.2.1 t15.2.2.2.2.2.2.2.1 t15.2.2.2.2.2.2.2.2.1 t15.2.2.2.2.2.2.2.2.2
 bif t22.2.2.2.2.2.2 !=0 then k (false) else bif !(t20.1==t21.1&&t20.2.1==t21.2.1&&(t20.2.2.1==t21.2.2.1&&t20.2.2.2.1==t21.2.2.2.1&&(t20.2.2.2.2.1==t21.2.2.2.2.1&&t20.2.2.2.2.2.1==t21.2.2.2.2.2.1))) then k (false) else
 let t23:=D2 A3 A2 A6 A5 A4 A9 A8 A7 AB AA B5 B4 B3 B2 AZ AY AX AW AV AU AT AS AR AQ AP AO AN AM AL AK BJ BI BH BG BF BE BD BC BB BA
 let t24:=D2 t11.1 t11.2.1 t11.2.2.1 t11.2.2.2.1 t11.2.2.2.2.1 t11.2.2.2.2.2.1 t11.2.2.2.2.2.2.1 t11.2.2.2.2.2.2.2.1 t11.2.2.2.2.2.2.2.2.1 t11.2.2.2.2.2.2.2.2.2.1 t11.2.2.2.2.2.2.2.2.2.2.1 t11.2.2.2.2.2.2.2.2.2.2.2.1 t11.2.2.2.2.2.2.2.2.2.2.2.2.1 t11.2.2.2.2.2.2.2.2.2.2.2.2.2.1 t11.2.2.2.2.2.2.2.2.2.2.2.2.2.2.1 t11.2.2.2.2.2.2.2.2.2.2.2.2.2.2.2.1 t11.2.2.2.2.2.2.2.2.2.2.2.2.2.2.2.2.1 t11.2.2.2.2.2.2.2.2.2.2.2.2.2.2.2.2.2.1 t11.2.2.2.2.2.2.2.2.2.2.2.2.2.2.2.2.2.2.1 t11.2.2.2.2.2.2.2.2.2.2.2.2.2.2.2.2.2.2.2.1 t11.2.2.2.2.2.2.2.2.2.2.2.2.2.2.2.2.2.2.2.2.1 t11.2.2.2.2.2.2.2.2.2.2.2.2.2.2.2.2.2.2.2.2.2.1 t11.2.2.2.2.2.2.2.2.2.2.2.2.2.2.2.2.2.2.2.2.2.2.1 t11.2.2.2.2.2.2.2.2.2.2.2.2.2.2.2.2.2.2.2.2.2.2.2.1 t11.2.2.2.2.2.2.2.2.2.2.2.2.2.2.2.2.2.2.2.2.2.2.2.2.1 t11.2.2.2.2.2.2.2.2.2.2.2.2.2.2.2.2.2.2.2.2.2.2.2.2.2.1 t11.2.2.2.2.2.2.2.2.2.2.2.2.2.2.2.2.2.2.2.2.2.2.2.2.2.2.1 t11.2.2.2.2.2.2.2.2.2.2.2.2.2.2.2.2.2.2.2.2.2.2.2.2.2.2.2.1 t11.2.2.2.2.2.2.2.2.2.2.2.2.2.2.2.2.2.2.2.2.2.2.2.2.2.2.2.2.1 t11.2.2.2.2.2.2.2.2.2.2.2.2.2.2.2.2.2.2.2.2.2.2.2.2.2.2.2.2.2 t12.1 t12.2.1 t12.2.2.1 t12.2.2.2.1 t12.2.2.2.2.1 t12.2.2.2.2.2.1 t12.2.2.2.2.2.2.1 t12.2.2.2.2.2.2.2.1 t12.2.2.2.2.2.2.2.2.1 t12.2.2.2.2.2.2.2.2.2
 bif t23.2.2 !=t24.2.2 then k (false) else
 let t25:=D2 t14.1 t14.2.1 t14.2.2.1 t14.2.2.2.1 t14.2.2.2.2.1 t14.2.2.2.2.2.1 t14.2.2.2.2.2.2.1 t14.2.2.2.2.2.2.2.1 t14.2.2.2.2.2.2.2.2.1 t14.2.2.2.2.2.2.2.2.2.1 t14.2.2.2.2.2.2.2.2.2.2.1 t14.2.2.2.2.2.2.2.2.2.2.2.1 t14.2.2.2.2.2.2.2.2.2.2.2.2.1 t14.2.2.2.2.2.2.2.2.2.2.2.2.2.1 t14.2.2.2.2.2.2.2.2.2.2.2.2.2.2.1 t14.2.2.2.2.2.2.2.2.2.2.2.2.2.2.2.1 t14.2.2.2.2.2.2.2.2.2.2.2.2.2.2.2.2.1 t14.2.2.2.2.2.2.2.2.2.2.2.2.2.2.2.2.2.1 t14.2.2.2.2.2.2.2.2.2.2.2.2.2.2.2.2.2.2.1 t14.2.2.2.2.2.2.2.2.2.2.2.2.2.2.2.2.2.2.2.1 t14.2.2.2.2.2.2.2.2.2.2.2.2.2.2.2.2.2.2.2.2.1 t14.2.2.2.2.2.2.2.2.2.2.2.2.2.2.2.2.2.2.2.2.2.1 t14.2.2.2.2.2.2.2.2.2.2.2.2.2.2.2.2.2.2.2.2.2.2.1 t14.2.2.2.2.2.2.2.2.2.2.2.2.2.2.2.2.2.2.2.2.2.2.2.1 t14.2.2.2.2.2.2.2.2.2.2.2.2.2.2.2.2.2.2.2.2.2.2.2.2.1 t14.2.2.2.2.2.2.2.2.2.2.2.2.2.2.2.2.2.2.2.2.2.2.2.2.2.1 t14.2.2.2.2.2.2.2.2.2.2.2.2.2.2.2.2.2.2.2.2.2.2.2.2.2.2.1 t14.2.2.2.2.2.2.2.2.2.2.2.2.2.2.2.2.2.2.2.2.2.2.2.2.2.2.2.1 t14.2.2.2.2.2.2.2.2.2.2.2.2.2.2.2.2.2.2.2.2.2.2.2.2.2.2.2.2.1 t14.2.2.2.2.2.2.2.2.2.2.2.2.2.2.2.2.2.2.2.2.2.2.2.2.2.2.2.2.2 t15.1 t15.2.1 t15.2.2.1 t15.2.2.2.1 t15.2.2.2.2.1 t15.2.2.2.2.2.1 t15.2.2.2.2.2.2.1 t15.2.2.2.2.2.2.2.1 t15.2.2.2.2.2.2.2.2.1 t15.2.2.2.2.2.2.2.2.2
 bif t23.2.2 !=t25.2.2 then k (false) else bif !(t23.1==t24.1&&t23.2.1==t24.2.1) then k (false) else bif t20.1==IntKind.i64.wrap (0-t22.2.1)&&t20.2.1==IntKind.i64.wrap (0-t22.1)&&(t20.2.2.1==IntKind.i64.wrap (0-t22.2.2.2.1)&&t20.2.2.2.1==IntKind.i64.wrap (0-t22.2.2.1)&&(t20.2.2.2.2.1==IntKind.i64.wrap (0-t22.2.2.2.2.2.1)&&t20.2.2.2.2.2.1==IntKind.i64.wrap (0-t22.2.2.2.2.1))) then bif t23.2.2 !=0 then k (true) else k (t23.1==IntKind.i64.wrap (0-t25.2.1)&&t23.2.1==IntKind.i64.wrap (0-t25.1)) else k (false) else none else none else none else none else none else none else none else none else none else none else none else none else none
theorem culetlaw28_DirectionNormals.run:xfn Tryz.prog ⟨[(10,culetlaw28_awake.sp),(11,culetlaw28_few.sp EJ EH),(12,culetref05_Valid.sp E8 E5),(13,culetref02_Of.sp CF CE),(14,culetref04_Scale.sp E9 E6),(15,culetref02_Mul.sp CB C9),(16,culetref04_Neg.sp EI EG),(17,culetref02_Neg.sp CA C8),(18,direction_Normal.sp DX DU),(19,direction_Distance.sp D2 CZ)],[],[]⟩ [] 60 Tryz.f3 [.agg ⟨.bool A3:: .string A2:: .bool A6:: .string A5:: .bool A4:: .string A9:: .bool A8:: .string A7:: .bool AB:: .string AA:: .bool B5:: .string B4:: .bool B3:: .string B2:: .bool AZ:: .string AY:: .bool AX:: .string AW:: .bool AV:: .string AU:: .bool AT:: .string AS:: .bool AR:: .string AQ:: .bool AP:: .string AO:: .bool AN:: .string AM:: .bool AL:: .string AK:: .bool BJ:: .string BI:: .bool BH:: .string BG:: .bool BF:: .string BE:: .bool BD:: .string BC:: .bool BB:: .string BA::[]⟩,.int .u8 a1] []=culetlaw28_DirectionNormals.K EJ EH E8 E5 CF CE E9 E6 CB C9 EI EG CA C8 DX DU D2 CZ A3 A2 A6 A5 A4 A9 A8 A7 AB AA B5 B4 B3 B2 AZ AY AX AW AV AU AT AS AR AQ AP AO AN AM AL AK BJ BI BH BG BF BE BD BC BB BA a1 (fun r=>some (.bool r,[])):=by kernel_rfl
noncomputable def culetlaw28_DirectionNormals.o:Option (Bool):=culetlaw28_DirectionNormals.K culetlaw28_few culetlaw28_few.pre culetref05_Valid culetref05_Valid.pre culetref02_Of culetref02_Of.pre culetref04_Scale culetref04_Scale.pre culetref02_Mul culetref02_Mul.pre culetref04_Neg culetref04_Neg.pre culetref02_Neg culetref02_Neg.pre direction_Normal direction_Normal.pre direction_Distance direction_Distance.pre A3 A2 A6 A5 A4 A9 A8 A7 AB AA B5 B4 B3 B2 AZ AY AX AW AV AU AT AS AR AQ AP AO AN AM AL AK BJ BI BH BG BF BE BD BC BB BA a1 some
noncomputable def culetlaw28_DirectionNormals:Bool:=(culetlaw28_DirectionNormals.o A3 A2 A6 A5 A4 A9 A8 A7 AB AA B5 B4 B3 B2 AZ AY AX AW AV AU AT AS AR AQ AP AO AN AM AL AK BJ BI BH BG BF BE BD BC BB BA a1).getD default
theorem culetlaw28_DirectionNormals.nat (k:(Bool)→Option R):culetlaw28_DirectionNormals.K EJ EH E8 E5 CF CE E9 E6 CB C9 EI EG CA C8 DX DU D2 CZ A3 A2 A6 A5 A4 A9 A8 A7 AB AA B5 B4 B3 B2 AZ AY AX AW AV AU AT AS AR AQ AP AO AN AM AL AK BJ BI BH BG BF BE BD BC BB BA a1 k=(culetlaw28_DirectionNormals.K EJ EH E8 E5 CF CE E9 E6 CB C9 EI EG CA C8 DX DU D2 CZ A3 A2 A6 A5 A4 A9 A8 A7 AB AA B5 B4 B3 B2 AZ AY AX AW AV AU AT AS AR AQ AP AO AN AM AL AK BJ BI BH BG BF BE BD BC BB BA a1 some).bind k:=by
 simp only [culetlaw28_DirectionNormals.K,bcond,Option.bind_some,Option.bind_none]
end
theorem few_le (n0:Bool) (s0:ByteArray) (n1:Bool) (s1:ByteArray) (n2:Bool) (s2:ByteArray) (n3:Bool) (s3:ByteArray) (n4:Bool) (s4:ByteArray) (n5:Bool) (s5:ByteArray) (n6:Bool) (s6:ByteArray) (n7:Bool) (s7:ByteArray) (n8:Bool) (s8:ByteArray) (n9:Bool) (s9:ByteArray) (n10:Bool) (s10:ByteArray) (n11:Bool) (s11:ByteArray) (n12:Bool) (s12:ByteArray) (n13:Bool) (s13:ByteArray) (n14:Bool) (s14:ByteArray) (n15:Bool) (s15:ByteArray) (n16:Bool) (s16:ByteArray) (n17:Bool) (s17:ByteArray) (n18:Bool) (s18:ByteArray) (n19:Bool) (s19:ByteArray) (z0:s0.size≤8589934592) (z1:s1.size≤8589934592) (z2:s2.size≤8589934592) (z3:s3.size≤8589934592) (z4:s4.size≤8589934592) (z5:s5.size≤8589934592) (z6:s6.size≤8589934592) (z7:s7.size≤8589934592) (z8:s8.size≤8589934592) (z9:s9.size≤8589934592) (z10:s10.size≤8589934592) (z11:s11.size≤8589934592) (z12:s12.size≤8589934592) (z13:s13.size≤8589934592) (z14:s14.size≤8589934592) (z15:s15.size≤8589934592) (z16:s16.size≤8589934592) (z17:s17.size≤8589934592) (z18:s18.size≤8589934592) (z19:s19.size≤8589934592):∃b,culetlaw28_few.o n0 s0 n1 s1 n2 s2 n3 s3 n4 s4 n5 s5 n6 s6 n7 s7 n8 s8 n9 s9 n10 s10 n11 s11 n12 s12 n13 s13 n14 s14 n15 s15 n16 s16 n17 s17 n18 s18 n19 s19=some b∧(b=true→∃x y z q:Q,(n0,s0,n1,s1,n2,s2,n3,s3,n4,s4)=C5 x∧(n5,s5,n6,s6,n7,s7,n8,s8,n9,s9)=C5 y∧(n10,s10,n11,s11,n12,s12,n13,s13,n14,s14)=C5 z∧(n15,s15,n16,s16,n17,s17,n18,s18,n19,s19)=C5 q∧x.ok=true∧y.ok=true∧z.ok=true∧q.ok=true∧x.Le 400∧y.Le 400∧z.Le 400∧q.Le 400):=by
 obtain ⟨b0,e0,f0⟩:=culetref02_Few.spec (n0:=n0) (n1:=n1) (n2:=n2) (n3:=n3) (n4:=n4) z0 z1 z2 z3 z4
 obtain ⟨b1,e1,f1⟩:=culetref02_Few.spec (n0:=n5) (n1:=n6) (n2:=n7) (n3:=n8) (n4:=n9) z5 z6 z7 z8 z9
 obtain ⟨b2,e2,f2⟩:=culetref02_Few.spec (n0:=n10) (n1:=n11) (n2:=n12) (n3:=n13) (n4:=n14) z10 z11 z12 z13 z14
 obtain ⟨b3,e3,f3⟩:=culetref02_Few.spec (n0:=n15) (n1:=n16) (n2:=n17) (n3:=n18) (n4:=n19) z15 z16 z17 z18 z19
 have fp:∀ {b:Bool} {o:Option Bool},o=some b→o.isSome=true∧o.getD default=b:=fun h=>by rw [h]; exact ⟨rfl,rfl⟩
 have p0:culetref02_Few.pre n0 s0 n1 s1 n2 s2 n3 s3 n4 s4=true:=(fp e0).1
 have v0:culetref02_Few n0 s0 n1 s1 n2 s2 n3 s3 n4 s4=b0:=(fp e0).2
 have p1:culetref02_Few.pre n5 s5 n6 s6 n7 s7 n8 s8 n9 s9=true:=(fp e1).1
 have v1:culetref02_Few n5 s5 n6 s6 n7 s7 n8 s8 n9 s9=b1:=(fp e1).2
 have p2:culetref02_Few.pre n10 s10 n11 s11 n12 s12 n13 s13 n14 s14=true:=(fp e2).1
 have v2:culetref02_Few n10 s10 n11 s11 n12 s12 n13 s13 n14 s14=b2:=(fp e2).2
 have p3:culetref02_Few.pre n15 s15 n16 s16 n17 s17 n18 s18 n19 s19=true:=(fp e3).1
 have v3:culetref02_Few n15 s15 n16 s16 n17 s17 n18 s18 n19 s19=b3:=(fp e3).2
 simp only [culetlaw28_few.o,culetlaw28_few.K,p0,p1,p2,p3,v0,v1,v2,v3,cond_true]
 cases b0 with
 |false=>exact ⟨false,rfl,fun h=>by cases h⟩
 |true=>
 cases b1 with
 |false=>exact ⟨false,rfl,fun h=>by cases h⟩
 |true=>
 cases b2 with
 |false=>exact ⟨false,rfl,fun h=>by cases h⟩
 |true=>
 cases b3 with
 |false=>exact ⟨false,rfl,fun h=>by cases h⟩
 |true=>
 obtain ⟨x,ex,ox,_,x4,x0,x1,x2,x3⟩:=f0 rfl
 obtain ⟨y,ey,oy,_,y4,y0,y1,y2,y3⟩:=f1 rfl
 obtain ⟨z,ez,oz,_,z4,z0,z1,z2,z3⟩:=f2 rfl
 obtain ⟨q,eq,oq,_,q4,q0,q1,q2,q3⟩:=f3 rfl
 exact ⟨true,rfl,fun _=>⟨x,y,z,q,ex,ey,ez,eq,ox,oy,oz,oq,⟨x0,x1,x2,x3,x4⟩,⟨y0,y1,y2,y3,y4⟩,⟨z0,z1,z2,z3,z4⟩,⟨q0,q1,q2,q3,q4⟩⟩⟩
theorem le_bd {m:Nat} {q:Q} (h:q.Le m) (hm:m≤65535):q.Bd 2:=by
 have e:p8 2=65536:=by decide
 have k:∀ {c:Int},c.natAbs≤m→Bd 2 c:=fun h=>by unfold Bd; omega
 exact ⟨k h.c0,k h.c1,k h.c2,k h.c3,k h.d⟩
theorem nul_sg {w:Q} (h:w.nul=true):w.sg=0:=by
 simp only [Q.nul,Bool.and_eq_true,beq_iff_eq] at h
 obtain ⟨⟨⟨h0,h1⟩,h2⟩,h3⟩:=h
 unfold Q.sg
 rw [h0,h1,h2,h3]; rfl
theorem nul_scale {x x':Q} {e:Int} (he:e≠0) (h:x'.sg=sgn e*x.sg):x'.nul=x.nul:=by
 have hs:sgn e≠0:=fun h=>he (sgn_zero.1 h)
 cases h1:x.nul with
 | true=>
  cases h2:x'.nul with
  |true=>rfl
  |false=>rw [nul_sg h1,Int.mul_zero] at h; exact absurd h (wv_nz h2)
 | false=>
  cases h2:x'.nul with
  |false=>rfl
  |true=>rw [nul_sg h2] at h; exact absurd h.symm (Int.mul_ne_zero hs (wv_nz h1))
theorem wrap_opp {a:Int} (h: -1073741824≤a) (h':a≤1073741824):IntKind.i64.wrap (0- -a)=a:=by
 rw [show (0:Int)- -a=a by omega]; exact w64 (by omega) (by omega)
theorem DirectionNormals.law (n0:Bool) (s0:ByteArray) (n1:Bool) (s1:ByteArray) (n2:Bool) (s2:ByteArray) (n3:Bool) (s3:ByteArray) (n4:Bool) (s4:ByteArray) (n5:Bool) (s5:ByteArray) (n6:Bool) (s6:ByteArray) (n7:Bool) (s7:ByteArray) (n8:Bool) (s8:ByteArray) (n9:Bool) (s9:ByteArray) (n10:Bool) (s10:ByteArray) (n11:Bool) (s11:ByteArray) (n12:Bool) (s12:ByteArray) (n13:Bool) (s13:ByteArray) (n14:Bool) (s14:ByteArray) (n15:Bool) (s15:ByteArray) (n16:Bool) (s16:ByteArray) (n17:Bool) (s17:ByteArray) (n18:Bool) (s18:ByteArray) (n19:Bool) (s19:ByteArray) (a1:Int) (ha:0≤a1∧a1≤255) (z0:s0.size≤8589934592) (z1:s1.size≤8589934592) (z2:s2.size≤8589934592) (z3:s3.size≤8589934592) (z4:s4.size≤8589934592) (z5:s5.size≤8589934592) (z6:s6.size≤8589934592) (z7:s7.size≤8589934592) (z8:s8.size≤8589934592) (z9:s9.size≤8589934592) (z10:s10.size≤8589934592) (z11:s11.size≤8589934592) (z12:s12.size≤8589934592) (z13:s13.size≤8589934592) (z14:s14.size≤8589934592) (z15:s15.size≤8589934592) (z16:s16.size≤8589934592) (z17:s17.size≤8589934592) (z18:s18.size≤8589934592) (z19:s19.size≤8589934592):culetlaw28_DirectionNormals.o n0 s0 n1 s1 n2 s2 n3 s3 n4 s4 n5 s5 n6 s6 n7 s7 n8 s8 n9 s9 n10 s10 n11 s11 n12 s12 n13 s13 n14 s14 n15 s15 n16 s16 n17 s17 n18 s18 n19 s19 a1=some true:=by
 obtain ⟨h0,h1⟩:=ha
 obtain ⟨b,eb,hb⟩:=few_le n0 s0 n1 s1 n2 s2 n3 s3 n4 s4 n5 s5 n6 s6 n7 s7 n8 s8 n9 s9 n10 s10 n11 s11 n12 s12 n13 s13 n14 s14 n15 s15 n16 s16 n17 s17 n18 s18 n19 s19 z0 z1 z2 z3 z4 z5 z6 z7 z8 z9 z10 z11 z12 z13 z14 z15 z16 z17 z18 z19
 have p1:culetlaw28_few.pre n0 s0 n1 s1 n2 s2 n3 s3 n4 s4 n5 s5 n6 s6 n7 s7 n8 s8 n9 s9 n10 s10 n11 s11 n12 s12 n13 s13 n14 s14 n15 s15 n16 s16 n17 s17 n18 s18 n19 s19=true:=isSome_of eb
 have v1:culetlaw28_few n0 s0 n1 s1 n2 s2 n3 s3 n4 s4 n5 s5 n6 s6 n7 s7 n8 s8 n9 s9 n10 s10 n11 s11 n12 s12 n13 s13 n14 s14 n15 s15 n16 s16 n17 s17 n18 s18 n19 s19=b:=getD_of eb
 have hw:IntKind.i64.wrap a1=a1:=w64 (by omega) (by omega)
 have hm:a1.tmod 9=a1%9:=Int.tmod_eq_emod_of_nonneg h0
 have hw2:IntKind.i64.wrap (1+a1%9)=1+a1%9:=w64 (by omega) (by omega)
 simp only [culetlaw28_DirectionNormals.o,culetlaw28_DirectionNormals.K,p1,v1,hw,hm,hw2,cond_true]
 obtain ⟨c,ec⟩:∃c,c=1+a1%9:=⟨_,rfl⟩
 have c1:1≤c:=by omega
 have c9:c≤9:=by omega
 rw [←ec]
 cases b with
 |false=>rfl
 | true=>
  obtain ⟨x,y,z,q,ex,ey,ez,eq,ox,oy,oz,oq,lx,ly,lz,lq⟩:=hb rfl
  simp only [C5,Prod.mk.injEq] at ex ey ez eq
  obtain ⟨rfl,rfl,rfl,rfl,rfl,rfl,rfl,rfl,rfl,rfl⟩:=ex
  obtain ⟨rfl,rfl,rfl,rfl,rfl,rfl,rfl,rfl,rfl,rfl⟩:=ey
  obtain ⟨rfl,rfl,rfl,rfl,rfl,rfl,rfl,rfl,rfl,rfl⟩:=ez
  obtain ⟨rfl,rfl,rfl,rfl,rfl,rfl,rfl,rfl,rfl,rfl⟩:=eq
  have w:∀ {u:Q},u.Le 400→u.Le 16777215:=fun h=>h.mono (by decide)
  simp only [Bool.not_true,cond_false,cond_true,culetref05_Valid.ps (w lx) (w ly) (w lz) (w lq) ox oy oz oq,culetref05_Valid.es (w lx) (w ly) (w lz) (w lq) ox oy oz oq,Bool.not_not]
  cases hn:(x.nul&&(y.nul&&z.nul)) with
  |true=>rfl
  | false=>
   have oc:=qof_ok c
   have lc:(qof c).Le 9:=⟨by show c.natAbs≤9; omega,Nat.zero_le _,Nat.zero_le _,Nat.zero_le _,by show (1:Int).natAbs≤9; decide⟩
   have m9:∀ {u:Q},u.Le 400→u.ok=true→(qmul u (qof c)).Le 43200:=fun {u} h ou=>low_le (qprod_le h lc) (Int.mul_pos (Q.ok_d ou).1 (Q.ok_d oc).1)
   have b2:∀ {u:Q},u.Le 400→u.Bd 2:=fun h=>le_bd h (by decide)
   have bm:∀ {u:Q},u.Le 400→u.ok=true→(qmul u (qof c)).Bd 2:=fun h ou=>le_bd (m9 h ou) (by decide)
   have bn:∀ {u:Q},u.Le 400→(qneg u).Bd 2:=fun h=>qneg_bd (b2 h)
   have om:∀ {u:Q},u.ok=true→(qmul u (qof c)).ok=true:=fun ou=>qmul_ok ou oc
   have on:∀ {u:Q},u.ok=true→(qneg u).ok=true:=fun {u} ou=>by rw [qneg_ok]; exact ou
   have c0:c≠0:=by omega
   have ne1:(-1:Int)≠0:=by decide
   have nm:∀ {u:Q},u.ok=true→(qmul u (qof c)).nul=u.nul:=fun ou=>nul_scale c0 (rep_sg (rep_more ou c) ou (om ou))
   have nn:∀ {u:Q},u.ok=true→(qneg u).nul=u.nul:=fun {u} ou=>nul_scale ne1 (rep_sg (rep_less u ou) ou (on ou))
   have hm':((qmul x (qof c)).nul&&((qmul y (qof c)).nul&&(qmul z (qof c)).nul))=false:=by rw [nm ox,nm oy,nm oz]; exact hn
   have hn':((qneg x).nul&&((qneg y).nul&&(qneg z).nul))=false:=by rw [nn ox,nn oy,nn oz]; exact hn
   have hσ:=sgm_pos ox oy oz hn
   have mm:∀ {a b:Z6},Sg.s a=1→Sg.s b=1→Sg.s (a*b)=1:=fun ha hb=>by rw [sgM,ha,hb]; rfl
   have hτ:=mm (mm (mm (zd_pos ox) (zd_pos ox)) (mm (zd_pos oy) (zd_pos oy))) (mm (zd_pos oz) (zd_pos oz))
   have rs:=qsq_rep ox oy oz
   have os:=qsq_ok ox oy oz
   have rm:=qsq_scale (rep_more ox c) (rep_more oy c) (rep_more oz c) (om ox) (om oy) (om oz)
   have rl:=qsq_scale (rep_less x ox) (rep_less y oy) (rep_less z oz) (on ox) (on oy) (on oz)
   have osm:=qsq_ok (om ox) (om oy) (om oz)
   have osl:=qsq_ok (on ox) (on oy) (on oz)
   have em:∀ {u:Q},u.ok=true→dquot (qmul u (qof c)) (qsq (qmul x (qof c)) (qmul y (qof c)) (qmul z (qof c)))=dquot u (qsq x y z):=fun {u} ou=>(dquot_turn c0 (rep_more ou c) rs rm ou (om ou) os osm hσ hτ).1 (by omega)
   have el:∀ {u:Q},u.ok=true→dquot (qneg u) (qsq (qneg x) (qneg y) (qneg z))=opp (dquot u (qsq x y z)):=fun {u} ou=>(dquot_turn ne1 (rep_less u ou) rs rl ou (on ou) os osl hσ hτ).2 (by decide)
   have bx:=dquot_bd rs ox os hσ
   have by':=dquot_bd rs oy os hσ
   have bz:=dquot_bd rs oz os hσ
   have bq:=dquot_bd rs oq os hσ
   have k2:(2:Nat)≤1000:=by decide
   have P9:9≤16777215:=by decide
   have P4:400≤16777215:=by decide
   have PP:12*(400*9)≤4611686018427387904:=by decide
   have ofp:=culetref02_Of.ps (n:=c) (by omega) (by omega)
   have ofe:=culetref02_Of.es (n:=c) (by omega) (by omega)
   have scp:=culetref04_Scale.ps lx ly lz lc P4 P9 PP ox oy oz oc
   have sce:=culetref04_Scale.es lx ly lz lc P4 P9 PP ox oy oz oc
   have mup:=culetref02_Mul.ps lq lc P4 P9 PP oq oc
   have mue:=culetref02_Mul.es lq lc P4 P9 PP oq oc
   have nep:=culetref04_Neg.ps (w lx) (w ly) (w lz) ox oy oz
   have nee:=culetref04_Neg.es (w lx) (w ly) (w lz) ox oy oz
   have nqp:=culetref02_Neg.ps (w lq) oq
   have nqe:=culetref02_Neg.es (w lq) oq
   have np0:=direction_Normal.ps (b2 lx) (b2 ly) (b2 lz) (b2 lq) k2 ox oy oz oq
   have ne0:=direction_Normal.es (b2 lx) (b2 ly) (b2 lz) (b2 lq) k2 ox oy oz oq
   have npm:=direction_Normal.ps (bm lx ox) (bm ly oy) (bm lz oz) (bm lq oq) k2 (om ox) (om oy) (om oz) (om oq)
   have nem:=direction_Normal.es (bm lx ox) (bm ly oy) (bm lz oz) (bm lq oq) k2 (om ox) (om oy) (om oz) (om oq)
   have npl:=direction_Normal.ps (bn lx) (bn ly) (bn lz) (bn lq) k2 (on ox) (on oy) (on oz) (on oq)
   have nel:=direction_Normal.es (bn lx) (bn ly) (bn lz) (bn lq) k2 (on ox) (on oy) (on oz) (on oq)
   have dp0:=direction_Distance.ps (b2 lx) (b2 ly) (b2 lz) (b2 lq) k2 ox oy oz oq hn
   have de0:=direction_Distance.es (b2 lx) (b2 ly) (b2 lz) (b2 lq) k2 ox oy oz oq hn
   have dpm:=direction_Distance.ps (bm lx ox) (bm ly oy) (bm lz oz) (bm lq oq) k2 (om ox) (om oy) (om oz) (om oq) hm'
   have dem:=direction_Distance.es (bm lx ox) (bm ly oy) (bm lz oz) (bm lq oq) k2 (om ox) (om oy) (om oz) (om oq) hm'
   have dpl:=direction_Distance.ps (bn lx) (bn ly) (bn lz) (bn lq) k2 (on ox) (on oy) (on oz) (on oq) hn'
   have del:=direction_Distance.es (bn lx) (bn ly) (bn lz) (bn lq) k2 (on ox) (on oy) (on oz) (on oq) hn'
   rw [hn,cond_false] at ne0
   rw [hm',cond_false,em ox,em oy,em oz] at nem
   rw [hn',cond_false,el ox,el oy,el oz] at nel
   rw [em oq] at dem
   rw [el oq] at del
   simp only [ofp,ofe,C5,scp,sce,mup,mue,nep,nee,nqp,nqe,np0,ne0,npm,nem,npl,nel,dp0,de0,dpm,dem,dpl,del,cond_true,cond_false,Bool.not_false,Bool.not_true]
   generalize dquot x (qsq x y z)=tx at*
   generalize dquot y (qsq x y z)=ty at*
   generalize dquot z (qsq x y z)=tz at*
   generalize dquot q (qsq x y z)=tq at*
   simp only [opp,wrap_opp bx.1 bx.2.1,wrap_opp bx.2.2.1 bx.2.2.2,wrap_opp by'.1 by'.2.1,wrap_opp by'.2.2.1 by'.2.2.2,wrap_opp bz.1 bz.2.1,wrap_opp bz.2.2.1 bz.2.2.2,wrap_opp bq.1 bq.2.1,wrap_opp bq.2.2.1 bq.2.2.2,beq_self_eq_true,bne_self_eq_false,Bool.and_self,Bool.not_true,cond_true,cond_false]
   cases (tq.2.2 !=0)<;>rfl
theorem culetlaw28_DirectionNormals.calls (A3:Bool) (A2:ByteArray) (A6:Bool) (A5:ByteArray) (A4:Bool) (A9:ByteArray) (A8:Bool) (A7:ByteArray) (AB:Bool) (AA:ByteArray) (B5:Bool) (B4:ByteArray) (B3:Bool) (B2:ByteArray) (AZ:Bool) (AY:ByteArray) (AX:Bool) (AW:ByteArray) (AV:Bool) (AU:ByteArray) (AT:Bool) (AS:ByteArray) (AR:Bool) (AQ:ByteArray) (AP:Bool) (AO:ByteArray) (AN:Bool) (AM:ByteArray) (AL:Bool) (AK:ByteArray) (BJ:Bool) (BI:ByteArray) (BH:Bool) (BG:ByteArray) (BF:Bool) (BE:ByteArray) (BD:Bool) (BC:ByteArray) (BB:Bool) (BA:ByteArray) (a1:Int) (h:culetlaw28_DirectionNormals.o A3 A2 A6 A5 A4 A9 A8 A7 AB AA B5 B4 B3 B2 AZ AY AX AW AV AU AT AS AR AQ AP AO AN AM AL AK BJ BI BH BG BF BE BD BC BB BA a1=some true) (w:World) (ht:TabOk w):Calls Tryz.prog 3 ⟨[.agg ⟨.bool A3:: .string A2:: .bool A6:: .string A5:: .bool A4:: .string A9:: .bool A8:: .string A7:: .bool AB:: .string AA:: .bool B5:: .string B4:: .bool B3:: .string B2:: .bool AZ:: .string AY:: .bool AX:: .string AW:: .bool AV:: .string AU:: .bool AT:: .string AS:: .bool AR:: .string AQ:: .bool AP:: .string AO:: .bool AN:: .string AM:: .bool AL:: .string AK:: .bool BJ:: .string BI:: .bool BH:: .string BG:: .bool BF:: .string BE:: .bool BD:: .string BC:: .bool BB:: .string BA::[]⟩,.int .u8 a1]⟩ w fun e w'=>e= .returned (.bool true)∧Below w.heap.size w w':=by
 refine calls_run (E:=⟨[(10,culetlaw28_awake.sp),(11,culetlaw28_few.sp culetlaw28_few culetlaw28_few.pre),(12,culetref05_Valid.sp culetref05_Valid culetref05_Valid.pre),(13,culetref02_Of.sp culetref02_Of culetref02_Of.pre),(14,culetref04_Scale.sp culetref04_Scale culetref04_Scale.pre),(15,culetref02_Mul.sp culetref02_Mul culetref02_Mul.pre),(16,culetref04_Neg.sp culetref04_Neg culetref04_Neg.pre),(17,culetref02_Neg.sp culetref02_Neg culetref02_Neg.pre),(18,direction_Normal.sp direction_Normal direction_Normal.pre),(19,direction_Distance.sp direction_Distance direction_Distance.pre)],[],[]⟩) (L:=[]) ⟨(specs_cons culetlaw28_awake.ok (specs_cons culetlaw28_few.ok (specs_cons culetref05_Valid.ok (specs_cons culetref02_Of.ok (specs_cons culetref04_Scale.ok (specs_cons culetref02_Mul.ok (specs_cons culetref04_Neg.ok (specs_cons culetref02_Neg.ok (specs_cons direction_Normal.ok (specs_cons direction_Distance.ok specs_nil)))))))))),inl_nil,mixed_ok,lps_nil⟩ 60 Tryz.func3 (by decide) rfl no_loops (vs:=[.agg ⟨.bool A3:: .string A2:: .bool A6:: .string A5:: .bool A4:: .string A9:: .bool A8:: .string A7:: .bool AB:: .string AA:: .bool B5:: .string B4:: .bool B3:: .string B2:: .bool AZ:: .string AY:: .bool AX:: .string AW:: .bool AV:: .string AU:: .bool AT:: .string AS:: .bool AR:: .string AQ:: .bool AP:: .string AO:: .bool AN:: .string AM:: .bool AL:: .string AK:: .bool BJ:: .string BI:: .bool BH:: .string BG:: .bool BF:: .string BE:: .bool BD:: .string BC:: .bool BB:: .string BA::[]⟩,.int .u8 a1]) (v:= .bool true) ?_ (by simp [okV,Nat.blt]) (clo_spec 8 _ rfl) w ht
 refine (culetlaw28_DirectionNormals.run culetlaw28_few culetlaw28_few.pre culetref05_Valid culetref05_Valid.pre culetref02_Of culetref02_Of.pre culetref04_Scale culetref04_Scale.pre culetref02_Mul culetref02_Mul.pre culetref04_Neg culetref04_Neg.pre culetref02_Neg culetref02_Neg.pre direction_Normal direction_Normal.pre direction_Distance direction_Distance.pre A3 A2 A6 A5 A4 A9 A8 A7 AB AA B5 B4 B3 B2 AZ AY AX AW AV AU AT AS AR AQ AP AO AN AM AL AK BJ BI BH BG BF BE BD BC BB BA a1).trans ?_
 rw [culetlaw28_DirectionNormals.nat]
 have h4:culetlaw28_DirectionNormals.K culetlaw28_few culetlaw28_few.pre culetref05_Valid culetref05_Valid.pre culetref02_Of culetref02_Of.pre culetref04_Scale culetref04_Scale.pre culetref02_Mul culetref02_Mul.pre culetref04_Neg culetref04_Neg.pre culetref02_Neg culetref02_Neg.pre direction_Normal direction_Normal.pre direction_Distance direction_Distance.pre A3 A2 A6 A5 A4 A9 A8 A7 AB AA B5 B4 B3 B2 AZ AY AX AW AV AU AT AS AR AQ AP AO AN AM AL AK BJ BI BH BG BF BE BD BC BB BA a1 some=some true:=h
 rw [h4]
 rfl
end Go.Proofs.YtpejalpgficopaaGreatDoor.G
end
section
namespace RX
open Go Go.RowKit
theorem okWide_agg {P:Program} {w:World} {r:Reach} {b:Nat} {t:TypeId} {v:Value} {ts:List TypeId} (hu:(match P.underlying t with|some (.struct _)=>true|some (.array _ _)=>true|_=>false)=true) (hc:P.cellTypes P.depth t=some ts) (hn:P.cellsOf t=ts.length) (h:Value.okWide P w r b t v):
  ∃l:List Value,v= .agg ⟨l⟩∧l.length=ts.length∧∀(i:Nat) (x:Value) (u:TypeId),l[i]? =some x→ts[i]? =some u→Cell.okWide P w r b u x:=by
 have key:∃cs,v= .agg cs∧cs.size=P.cellsOf t∧Row.okWide P w r b t cs:=by
  unfold Value.okWide at h
  split at h
  ·exact h
  ·exact h
  ·rename_i h1 h2
   split at hu
   ·rename_i hs; exact absurd hs (h1 _)
   ·rename_i hs; exact absurd hs (h2 _ _)
   ·cases hu
 obtain ⟨cs,rfl,hsz,ts',hts,_,hcell⟩:=key
 rw [hc] at hts
 injection hts with hts
 subst hts
 refine ⟨cs.toList,rfl,by simp [hsz,hn],fun i x u hx hu'=> ?_⟩
 have hx':cs[i]? =some x:=by simpa using hx
 obtain ⟨u',e,hk⟩:=hcell i x hx'
 have hlt:i<ts.length:=(List.getElem?_eq_some_iff.1 hu').1
 rw [Nat.mod_eq_of_lt hlt,hu'] at e
 injection e with e
 subst e
 exact hk
theorem len_succ {α:Type} {l:List α} {n:Nat} (h:l.length=n+1):∃x l',l=x::l'∧l'.length=n:=by
 cases l with
 |nil=>simp at h
 |cons x l'=>exact ⟨x,l',rfl,by simpa using h⟩
theorem len_zero {α:Type} {l:List α} (h:l.length=0):l=[]:=List.length_eq_zero_iff.1 h
theorem cell_bool {P:Program} {w:World} {r:Reach} {b:Nat} {u:TypeId} {x:Value} (hu:P.underlying u=some .bool) (h:Cell.okWide P w r b u x):∃n,x= .bool n:=by
 unfold Cell.okWide at h
 rw [hu] at h
 cases x<;>simp [Cell.ok,hu] at h
 exact ⟨_,rfl⟩
theorem trod_lt {H:Type} {enc:TypeId×Value→H} {P:Program} {w:World} {spare:Nat→Bool} {held:Bool} {t:TypeId} {v:Value} {d:DataW H} {ps:List MemPlace} (h:DataW.Trod enc P w 0 spare held t v d ps):∀x∈ps,x.block<w.heap.size:=by
 obtain ⟨m,hm⟩:=h
 exact DataW.trod_lt m _ _ _ hm
theorem wf_has {k:IntKind} {n:Int} (h:(Lit.int k n).wf=true):k.has n:=by
 simp only [Lit.wf,Bool.and_eq_true,decide_eq_true_eq] at h
 exact h
end RX
end
section
namespace RX
open Go Go.RowKit
def hasS (P:Program):Nat→TypeId→Nat→Bool
 |0,_,_=>false
 | n +1,t,i=>
  match P.underlying t with
  |some .string=>Nat.beq i 0
  | some (.struct fs)=>(List.range fs.size).any fun j=>match fs[j]? with
   |some f=>decide (f.offset≤i)&&(decide (i<f.offset+P.cellsOf f.type)&&hasS P n f.type (i-f.offset))
   |none=>false
  |some (.array m e)=>decide (i<m*P.cellsOf e)&&hasS P n e (i%P.cellsOf e)
  |_=>false
theorem bulkAll_mem {H:Type} {d:DataW H} :∀ {l:List (DataW H)},d∈l→Go.Proofs.YtpejalpgficopaaGreatDoor.Rows.uptoBulk d≤Go.Proofs.YtpejalpgficopaaGreatDoor.Rows.uptoBulkAll l
 |[],h=>by cases h
 | x::r,h=>by
  simp only [Go.Proofs.YtpejalpgficopaaGreatDoor.Rows.uptoBulkAll]
  rcases List.mem_cons.1 h with rfl|h
  ·omega
  ·have:=bulkAll_mem h; omega
theorem sub_get {α:Type} {l:List α} {o c i:Nat} (h1:o≤i) (h2:i<o+c):((l.drop o).take c)[i-o]? =l[i]? :=by
 rw [List.getElem?_take_of_lt (by omega),List.getElem?_drop]
 congr 1; omega
theorem trod_bulk {H:Type} {enc:TypeId×Value→H} {P:Program} {w:World} {base:Nat} {spare:Nat→Bool} {held:Bool} {s:ByteArray} :∀(n:Nat) (t:TypeId) (i:Nat),hasS P n t i=true→∀(fuel:Nat) (cs:List Value) (x:DataW H×List MemPlace),DataW.trod enc P w base spare held fuel t cs=some x→cs[i]? =some (.string s)→s.size+1≤Go.Proofs.YtpejalpgficopaaGreatDoor.Rows.uptoBulk x.1
 |0,_,_,h=>by cases h
 | n + 1,t,i,h=>fun fuel cs x hx hi=>by
  unfold hasS at h
  split at h
  ·rename_i hu
   obtain ⟨s',hc,rfl,_⟩:=DataW.trod_string hu hx
   have h0:=Nat.eq_of_beq_eq_true h
   subst h0 hc
   simp only [List.getElem?_cons_zero,Option.some.injEq,Value.string.injEq] at hi
   subst hi
   simp only [Go.Proofs.YtpejalpgficopaaGreatDoor.Rows.uptoBulk]
   exact Nat.le_refl _
  ·rename_i fs hu
   obtain ⟨ys,m,_,rfl,hl,hlen,hf⟩:=DataW.trod_struct hu hx
   rw [List.any_eq_true] at h
   obtain ⟨j,hj,h⟩:=h
   split at h
   ·rename_i f hfj
    simp only [Bool.and_eq_true,decide_eq_true_eq] at h
    obtain ⟨h1,h2,h3⟩:=h
    have hjl:j<fs.size:=(Array.getElem?_eq_some_iff.1 hfj).1
    have hy:=hf j f hfj
    have hj':ys[j]? =some (ys[j]'(by omega)):=List.getElem?_eq_getElem (by omega)
    rw [hj'] at hy
    have:=trod_bulk n f.type (i-f.offset) h3 _ _ _ hy (by rw [sub_get h1 h2]; exact hi)
    have hm:=bulkAll_mem (d:=(ys[j]'(by omega)).1) (l:=ys.map (·.1)) (List.mem_map.2 ⟨_,List.getElem_mem _,rfl⟩)
    simp only [Go.Proofs.YtpejalpgficopaaGreatDoor.Rows.uptoBulk]
    omega
   ·cases h
  ·rename_i m e hu
   obtain ⟨ys,k,_,rfl,hl,hlen,hf⟩:=DataW.trod_array hu hx
   simp only [Bool.and_eq_true,decide_eq_true_eq] at h
   obtain ⟨h1,h2⟩:=h
   have hc:0<P.cellsOf e:=Nat.pos_of_ne_zero fun h0=>by rw [h0,Nat.mul_zero] at h1; omega
   have hd:i/P.cellsOf e<m:=Nat.div_lt_of_lt_mul (by rw [Nat.mul_comm]; exact h1)
   have hy:=hf (i/P.cellsOf e) hd
   have hj':ys[i/P.cellsOf e]? =some (ys[i/P.cellsOf e]'(by omega)):=List.getElem?_eq_getElem (by omega)
   rw [hj'] at hy
   have e1:i%P.cellsOf e=i-i/P.cellsOf e*P.cellsOf e:=by
    have:=Nat.div_add_mod i (P.cellsOf e)
    rw [Nat.mul_comm] at this
    omega
   have l1:i/P.cellsOf e*P.cellsOf e≤i:=Nat.div_mul_le_self i _
   have l2:i<i/P.cellsOf e*P.cellsOf e+P.cellsOf e:=by
    have:=Nat.mod_lt i hc
    omega
   have:=trod_bulk n e (i%P.cellsOf e) h2 _ _ _ hy (by rw [e1,sub_get l1 l2]; exact hi)
   have hm:=bulkAll_mem (d:=(ys[i/P.cellsOf e]'(by omega)).1) (l:=ys.map (·.1)) (List.mem_map.2 ⟨_,List.getElem_mem _,rfl⟩)
   simp only [Go.Proofs.YtpejalpgficopaaGreatDoor.Rows.uptoBulk]
   omega
  ·cases h
theorem cell_string {P:Program} {w:World} {r:Reach} {b:Nat} {u:TypeId} {x:Value} (hu:P.underlying u=some .string) (h:Cell.okWide P w r b u x):∃n,x= .string n:=by
 unfold Cell.okWide at h
 rw [hu] at h
 cases x<;>simp [Cell.ok,hu] at h
 exact ⟨_,rfl⟩
theorem size_le {H:Type} {enc:TypeId×Value→H} {P:Program} {w:World} {spare:Nat→Bool} {held:Bool} {t:TypeId} {cs:List Value} {d:DataW H} {ps:List MemPlace} {ds:List (DataW H)} {s:ByteArray} {B:Nat} (h:DataW.Trod enc P w 0 spare held t (.agg ⟨cs⟩) d ps) (hd:d∈ds) (hB:Go.Proofs.YtpejalpgficopaaGreatDoor.Rows.uptoBulkAll ds≤B) (n i:Nat) (hh:hasS P n t i=true) (hi:cs[i]? =some (.string s)):s.size≤B:=by
 obtain ⟨fuel,hf⟩:=h
 have h1:=trod_bulk n t i hh fuel cs _ hf hi
 have h2:=bulkAll_mem hd
 simp only at h1
 omega
end RX
end
