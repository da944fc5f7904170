/- A part of what the law's proof leans on. PACKED BY pack.py of this repo. -/
import Derived.Test.YtphlckkbihmlnaaGreatDoorK3
set_option linter.unusedVariables false
set_option linter.unusedSimpArgs false
set_option linter.unusedSectionVars false
set_option linter.defProp false
set_option maxRecDepth 100000
open Go.IntKind (i64 u64 u32)
section
namespace Go.Proofs.YtphlckkbihmlnaaGreatDoor.G
open Go
def rts:Nat→Int→Int→Int
 |0,n,r=>r
 |k+1,n,r=>rts k n (if (r+2^k)*(r+2^k)≤n then r+2^k else r)
def sqt (n:Int):Int:=rts 32 n 0
theorem Kw (k:Nat):(2:Int)^(k+1)=2^k+2^k:=by rw [Int.pow_succ]; omega
theorem Mp (k:Nat):(0:Int)<2^k:=by
 induction k with
 |zero=>decide
 |succ k ih=>rw [Kw]; omega
theorem Me:∀(k:Nat) (n r:Int),0≤r→r*r≤n→n<(r+2^k)*(r+2^k)→0≤rts k n r∧rts k n r*rts k n r≤n∧n<(rts k n r+1)*(rts k n r+1)
 | 0,n,r,h0,h1,h2=>by
  simp only [rts]
  exact ⟨h0,h1,by simpa using h2⟩
 | k +1,n,r,h0,h1,h2=>by
  simp only [rts]
  have hp:=Mp k
  rw [Kw] at h2
  split
  ·rename_i h
   refine Me k n (r+2^k) (by omega) h ?_
   rw [Int.add_assoc]; exact h2
  ·rename_i h
   exact Me k n r h0 h1 (by omega)
theorem J0 {n:Int} (h0:0≤n) (h:n≤4611686018427387904):0≤sqt n∧sqt n*sqt n≤n∧n<(sqt n+1)*(sqt n+1):=
 Me 32 n 0 (by omega) (by omega) (by
  have:((0:Int)+2^32)*(0+2^32)=18446744073709551616:=by decide
  omega)
theorem PR {a b:Int} (hb:0≤b) (h:a*a<(b+1)*(b+1)):a≤b:=by
 by_cases hab:a≤b
 ·exact hab
 ·have:(b+1)*(b+1)≤a*a:=Ic (by omega) (by omega)
  omega
theorem Oq {m n:Int} (h0:0≤m) (hmn:m≤n) (h:n≤4611686018427387904):sqt m≤sqt n:=by
 have h1:=J0 h0 (by omega)
 have h2:=J0 (n:=n) (by omega) h
 exact PR h2.1 (by omega)
def sqc (n:Int):Int:=if sqt n*sqt n<n then sqt n+1 else sqt n
theorem Kj {n:Int} (h0:0≤n) (h:n≤4611686018427387904):0≤sqc n∧n≤sqc n*sqc n∧(0<sqc n→(sqc n-1)*(sqc n-1)<n)∧sqt n≤sqc n∧sqc n≤sqt n+1:=by
 have hs:=J0 h0 h
 unfold sqc
 split
 ·refine ⟨by omega,by omega,fun _=> ?_,by omega,by omega⟩
  rw [Int.add_sub_cancel]; assumption
 ·refine ⟨hs.1,by omega,fun hp=> ?_,by omega,by omega⟩
  have:(sqt n-1)*(sqt n-1)<sqt n*sqt n:=by
   have:=Ic (x:=sqt n-1) (y:=sqt n) (by omega) (by omega)
   have e:sqt n*sqt n=(sqt n-1)*(sqt n-1)+2*(sqt n-1)+1:=by
    have:sqt n=(sqt n-1)+1:=by omega
    generalize sqt n-1=q at*
    rw [this,Int.add_mul,Int.mul_add]; omega
   omega
  omega
theorem sqc_le {n q:Int} (h0:0≤n) (h:n≤4611686018427387904) (hq:0≤q) (hn:n≤q*q):sqc n≤q:=by
 have hs:=Kj h0 h
 by_cases hp:0<sqc n
 ·have:=PR (a:=sqc n-1) (b:=q-1+0) (by
   by_cases hq0:q=0
   ·subst hq0
    have h1:=hs.2.2.1 hp
    have h2:=HZ (sqc n-1)
    omega
   ·omega) (by
   have e:q-1+0+1=q:=by omega
   rw [e]
   have:=hs.2.2.1 hp
   omega)
  omega
 ·omega
def isr (a b:Int):Int×Int×Int:=bif V a b then (if a<0 then (0,0,2) else (sqt (a*16777216),sqc (b*16777216),0)) else (0,0,1)
theorem Nr {a b:Int} (h0:0≤a) (h1:a≤b) (h2:b≤1073741824):0≤sqt (a*16777216)∧sqt (a*16777216)≤sqc (b*16777216)∧sqc (b*16777216)≤134217728:=by
 have s1:=J0 (n:=a*16777216) (by omega) (by omega)
 have s2:=Kj (n:=b*16777216) (by omega) (by omega)
 have s3:=Oq (m:=a*16777216) (n:=b*16777216) (by omega) (by omega) (by omega)
 have s4:=sqc_le (n:=b*16777216) (q:=134217728) (by omega) (by omega) (by omega) (by omega)
 omega
theorem isr_ok {a b L H:Int} (h:isr a b=(L,H,0)):V a b=true∧0≤a∧L=sqt (a*16777216)∧H=sqc (b*16777216):=by
 unfold isr at h
 cases hv:V a b with
 |false=>simp [hv] at h
 | true=>
  by_cases ha:a<0
  ·simp [hv,ha] at h
  ·simp only [hv,cond_true,ha,if_false,zP,and_true] at h
   exact ⟨rfl,by omega,h.1.symm,h.2.symm⟩
def ineg (a b:Int):Int×Int×Int:=bif V a b then (-b,-a,0) else (0,0,1)
def isg (a b:Int):Int:=bif V a b then (if 0<a then 1 else if b<0 then -1 else 0) else 0
inductive Re (α:Type) where
 |er (e:Int):Re α
 |ok (a:α):Re α
def Re.bind {α β:Type} (r:Re α) (k:α→Re β):Re β:=match r with| .er e=> .er e| .ok a=>k a
theorem Cn {α β:Type} (e:Int) (k:α→Re β):(Re.er e).bind k= .er e:=rfl
theorem Cm {α β:Type} (a:α) (k:α→Re β):(Re.ok a).bind k=k a:=rfl
theorem Ez {α β:Type} {r:Re α} {k:α→Re β} {b:β} (h:r.bind k= .ok b):∃a,r= .ok a∧k a= .ok b:=by
 cases r with
 |er e=>cases h
 |ok a=>exact ⟨a,rfl,h⟩
abbrev I2:=Int×Int
abbrev Bx:=I2×I2×I2
def t3 (r:Int×Int×Int):Re I2:=bif r.2.2 !=0 then .er r.2.2 else .ok (r.1,r.2.1)
def o3:Re I2→Int×Int×Int
 | .er e=>(0,0,e)
 | .ok x=>(x.1,x.2,0)
def o7:Re Bx→Int×Int×Int×Int×Int×Int×Int
 | .er e=>(0,0,0,0,0,0,e)
 | .ok x=>(x.1.1,x.1.2,x.2.1.1,x.2.1.2,x.2.2.1,x.2.2.2,0)
theorem Eg {a b:Int} :t3 (a,b,0)= .ok (a,b):=rfl
theorem GX {a b e:Int} (h:e≠0):t3 (a,b,e)= .er e:=by simp [t3,Em h]
theorem MY {r:Int×Int×Int} {x:I2} (h:t3 r= .ok x):r=(x.1,x.2,0):=by
 obtain ⟨a,b,e⟩:=r
 by_cases he:e=0
 ·subst he; rw [Eg] at h; injection h with h; subst h; rfl
 ·rw [GX he] at h; cases h
def addR (x y:I2):Re I2:=t3 (iadd x.1 x.2 y.1 y.2)
def subR (x y:I2):Re I2:=t3 (isub x.1 x.2 y.1 y.2)
def mulR (x y:I2):Re I2:=t3 (imul x.1 x.2 y.1 y.2)
def divR (x y:I2):Re I2:=t3 (idiv x.1 x.2 y.1 y.2)
def sqR (x:I2):Re I2:=t3 (isq x.1 x.2)
def rtR (x:I2):Re I2:=t3 (isr x.1 x.2)
def ngR (x:I2):Re I2:=t3 (ineg x.1 x.2)
def V2 (x:I2):Bool:=V x.1 x.2
def VB (a:Bx):Bool:=V2 a.1&&(V2 a.2.1&&V2 a.2.2)
def one2:I2:=(16777216,16777216)
def dzip (f:I2→I2→Re I2) (a b:Bx):Re Bx:=(f a.1 b.1).bind fun x=>(f a.2.1 b.2.1).bind fun y=>(f a.2.2 b.2.2).bind fun z=> .ok (x,y,z)
def dadd (a b:Bx):Re Bx:=bif VB a&&VB b then dzip addR a b else .er 1
def dscale (a:Bx) (k:I2):Re Bx:=bif VB a&&V2 k then dzip mulR a (k,k,k) else .er 1
def ddot (a b:Bx):Re I2:=bif VB a&&VB b then (mulR a.1 b.1).bind fun x=>(mulR a.2.1 b.2.1).bind fun y=>(mulR a.2.2 b.2.2).bind fun z=>(addR x y).bind fun s=>addR s z else .er 1
def rdc (c r:I2):Re I2:=bif V2 c&&V2 r then (sqR r).bind fun q=>(sqR c).bind fun s=>(subR one2 s).bind fun t=>(mulR q t).bind fun p=>subR one2 p else .er 1
def rfc (d m:Bx) (r:I2):Re (Bx×I2×I2):=bif VB d&&(VB m&&V2 r) then (ddot d m).bind fun x=>if isg x.1 x.2=0 then .er 9 else (rdc x r).bind fun q=>if q.1<0 then .er 15 else (rtR q).bind fun s=>(if isg x.1 x.2<0 then ngR s else .ok s).bind fun t=>(dscale d r).bind fun a=>(mulR r x).bind fun p=>(subR t p).bind fun k=>(dscale m k).bind fun b=>(dadd a b).bind fun o=> .ok (o,x,t) else .er 1
def S2 (x X:I2):Prop:=In x.1 x.2 X.1 X.2∧V X.1 X.2=true
theorem He {α:Type} {b:Bool} {x y:Re α} {A:α} {e:Int} (hy:y= .er e) (h:(bif b then x else y)= .ok A):b=true∧x= .ok A:=by
 cases b with
 |true=>exact ⟨rfl,h⟩
 |false=>rw [hy] at h; cases h
theorem isg_val (a b:Int):isg a b=1∧V a b=true∧0<a∨isg a b= -1∧V a b=true∧¬0<a∧b<0∨isg a b=0∧(V a b=false∨¬0<a∧¬b<0):=by
 unfold isg
 cases V a b with
 |false=>simp
 |true=>by_cases h1:0<a<;>by_cases h2:b<0<;>simp [h1,h2]
def Lim {α:Type} (P:α→Prop) (r:Re α):Prop:=(∃a,r= .ok a∧P a)∨r= .er 3
theorem rt_lim {x:I2} (h:V2 x=true) (h':0≤x.1):Lim (fun x=>V2 x=true) (rtR x):=by
 have hv:=Hf.1 (show V x.1 x.2=true from h)
 have:=Nr (a:=x.1) (b:=x.2) h' (by omega) (by omega)
 unfold rtR isr
 rw [show V x.1 x.2=true from h,cond_true,if_neg (by omega)]
 exact Or.inl ⟨(sqt (x.1*16777216),sqc (x.2*16777216)),rfl,Hf.2 (by simp only; omega)⟩
theorem RO {lo hi:Int} {x:I2} (h:t3 (chk lo hi)= .ok x):x=(lo,hi)∧V lo hi=true:=by
 rcases chk_eq lo hi with ⟨e,hv⟩|⟨e,hv⟩<;>rw [e] at h
 ·injection h with h; exact ⟨h.symm,hv⟩
 ·cases h
theorem O3 {x y o:I2} (h:subR x y= .ok o):o=(x.1-y.2,x.2-y.1)∧V2 o=true:=by
 have h':=MY h
 have hv:=op_v h'
 unfold subR isub at h
 rw [hv.1,hv.2] at h
 have:=RO h
 exact ⟨this.1,by rw [this.1]; exact this.2⟩
theorem RQ {x y o:I2} (h:addR x y= .ok o):o=(x.1+y.1,x.2+y.2)∧V2 o=true:=by
 have h':=MY h
 have hv:=op_v h'
 unfold addR iadd at h
 rw [hv.1,hv.2] at h
 have:=RO h
 exact ⟨this.1,by rw [this.1]; exact this.2⟩
theorem rt_inv {x o:I2} (h:rtR x= .ok o):V2 x=true∧0≤x.1∧o=(sqt (x.1*16777216),sqc (x.2*16777216)):=by
 have:=isr_ok (MY h)
 exact ⟨this.1,this.2.1,Prod.ext this.2.2.1 this.2.2.2⟩
theorem ng_inv {x o:I2} (h:ngR x= .ok o):o=(-x.2,-x.1):=by
 unfold ngR ineg at h
 cases hv:V x.1 x.2 with
 |false=>rw [hv] at h; cases h
 |true=>rw [hv] at h; injection h with h; exact h.symm
def Nz {α:Type} (r:Re α):Prop:=∀e,r= .er e→e≠0
theorem Nz.cases {α:Type} {r:Re α} (h:Nz r):(∃x,r= .ok x)∨∃e,e≠0∧r= .er e:=by
 cases r with
 |er e=>exact Or.inr ⟨e,h e rfl,rfl⟩
 |ok x=>exact Or.inl ⟨x,rfl⟩
theorem Nz.ok {α:Type} {a:α} :Nz (.ok a):=fun e h=>by cases h
theorem Nz.er {α:Type} {e:Int} (h:e≠0):Nz (.er e:Re α):=fun e' h'=>by injection h' with h'; subst h'; exact h
theorem Nz.bind {α β:Type} {r:Re α} {k:α→Re β} (h:Nz r) (hk:∀a,Nz (k a)):Nz (r.bind k):=by
 rcases h.cases with ⟨x,e⟩|⟨e,he,e1⟩
 ·rw [e]; exact hk x
 ·rw [e1]; exact Nz.er he
theorem Nz.t3 (r:Int×Int×Int):Nz (G.t3 r):=by
 obtain ⟨a,b,e⟩:=r
 by_cases he:e=0
 ·subst he; exact Nz.ok
 ·rw [GX he]; exact Nz.er he
theorem Nz.cond {α:Type} {b:Bool} {x y:Re α} (h:Nz x) (h':Nz y):Nz (bif b then x else y):=by cases b; exact h'; exact h
theorem Nz.ite {α:Type} {p:Prop} [Decidable p] {x y:Re α} (h:Nz x) (h':Nz y):Nz (if p then x else y):=by split; exact h; exact h'
theorem Nz.one {α:Type} :Nz (.er 1:Re α):=Nz.er (by decide)
theorem RM {f:I2→I2→Re I2} (hf:∀x y,Nz (f x y)) (a b:Bx):Nz (dzip f a b):=(hf _ _).bind fun _=>(hf _ _).bind fun _=>(hf _ _).bind fun _=>Nz.ok
theorem OZ (a b:Bx):Nz (dadd a b):=Nz.cond (RM (fun _ _=>Nz.t3 _) _ _) Nz.one
theorem IT (a:Bx) (k:I2):Nz (dscale a k):=Nz.cond (RM (fun _ _=>Nz.t3 _) _ _) Nz.one
theorem RN (a b:Bx):Nz (ddot a b):=Nz.cond ((Nz.t3 _).bind fun _=>(Nz.t3 _).bind fun _=>(Nz.t3 _).bind fun _=>(Nz.t3 _).bind fun _=>Nz.t3 _) Nz.one
theorem Sa (c r:I2):Nz (rdc c r):=Nz.cond ((Nz.t3 _).bind fun _=>(Nz.t3 _).bind fun _=>(Nz.t3 _).bind fun _=>(Nz.t3 _).bind fun _=>Nz.t3 _) Nz.one
theorem SY (d m:Bx) (r:I2):Nz (rfc d m r):=Nz.cond ((RN _ _).bind fun _=>Nz.ite (Nz.er (by decide)) ((Sa _ _).bind fun _=>Nz.ite (Nz.er (by decide)) ((Nz.t3 _).bind fun _=>Nz.bind (Nz.ite (Nz.t3 _) Nz.ok) fun _=>(IT _ _).bind fun _=>(Nz.t3 _).bind fun _=>(Nz.t3 _).bind fun _=>(IT _ _).bind fun _=>(OZ _ _).bind fun _=>Nz.ok))) Nz.one
def o2:Re Int→Int×Int
 | .er e=>(0,e)
 | .ok x=>(x,0)
def o11:Re (Bx×I2×I2)→Int×Int×Int×Int×Int×Int×Int×Int×Int×Int×Int
 | .er e=>(0,0,0,0,0,0,0,0,0,0,e)
 | .ok x=>(x.1.1.1,x.1.1.2,x.1.2.1.1,x.1.2.1.2,x.1.2.2.1,x.1.2.2.2,x.2.1.1,x.2.1.2,x.2.2.1,x.2.2.2,0)
def st (s a b:Int) (r:Int×Int×Int):Int×Int×Int:=bif s !=0 then (a,b,s) else r
theorem st0 (a b:Int) (r:Int×Int×Int):st 0 a b r=r:=rfl
theorem stE {s:Int} (h:s≠0) (a b:Int) (r:Int×Int×Int):st s a b r=(a,b,s):=by simp [st,Em h]
def kr (s:Int) (r:Int×Int×Int):Int×Int×Int:=(r.1,r.2.1,kp s r.2.2)
theorem kr0 (r:Int×Int×Int):kr 0 r=r:=rfl
theorem krE {s:Int} (h:s≠0) (r:Int×Int×Int):kr s r=(r.1,r.2.1,s):=by simp [kr,kpn _ h]
theorem t3c (r:Int×Int×Int):(∃x y,r=(x,y,0))∨∃x y e,e≠0∧r=(x,y,e):=by
 obtain ⟨a,b,e⟩:=r
 by_cases he:e=0
 ·subst he; exact Or.inl ⟨_,_,rfl⟩
 ·exact Or.inr ⟨_,_,_,he,rfl⟩
def st7 (s:Int) (a:Bx) (r:Re Bx):Int×Int×Int×Int×Int×Int×Int:=bif s !=0 then (a.1.1,a.1.2,a.2.1.1,a.2.1.2,a.2.2.1,a.2.2.2,s) else o7 r
theorem st70 (a:Bx) (r:Re Bx):st7 0 a r=o7 r:=rfl
theorem st7E {s:Int} (h:s≠0) (a:Bx) (r:Re Bx):st7 s a r=(a.1.1,a.1.2,a.2.1.1,a.2.1.2,a.2.2.1,a.2.2.2,s):=by simp [st7,Em h]
theorem Ej (a b:Int):V2 (a,b)=V a b:=rfl
structure Pt (p q:Int) (X:I2):Prop where
 lo:X.1*q≤p
 hi:p≤X.2*q
theorem Pl {lo hi:Int} {Z:I2} (h:t3 (chk lo hi)= .ok Z):Z=(lo,hi):=by
 obtain ⟨h1,h2,_⟩:=chk_ok (MY h)
 exact Prod.ext h1.symm h2.symm
theorem O1 {e:Int} {Z:I2} (h:t3 (0,0,e)= .ok Z):e=0:=by
 have:=MY h
 injection this with _ h2
 injection h2
theorem NM {x k:Int} (hk:0<k):x≤cl x k*k:=by
 have:=(L9 (x:= -x) hk).1
 unfold cl
 rw [Int.neg_mul]; omega
theorem PC {p q lo hi:Int} (hq:0≤q) (h:lo*q≤p) (h':p≤hi*q):Pt p (16777216*q) (lo/16777216,cl hi 16777216):=by
 have h1:=(L9 (x:=lo) (show (0:Int)<16777216 by decide)).1
 have h2:=NM (x:=hi) (show (0:Int)<16777216 by decide)
 constructor
 ·show lo/16777216*(16777216*q)≤p
  rw [←Int.mul_assoc]
  exact Int.le_trans (Int.mul_le_mul_of_nonneg_right h1 hq) h
 ·show p≤cl hi 16777216*(16777216*q)
  rw [←Int.mul_assoc]
  exact Int.le_trans h' (Int.mul_le_mul_of_nonneg_right h2 hq)
theorem sqR_pt {p q:Int} {X Z:I2} (hq:0<q) (h:Pt p q X) (e:sqR X= .ok Z):Pt (p*p) (16777216*(q*q)) Z:=by
 unfold sqR isq at e
 cases hv:V X.1 X.2 with
 |false=>rw [hv] at e; have:=O1 e; omega
 | true=>
  rw [hv,cond_true] at e
  rw [Pl e]
  obtain ⟨a,b⟩:=X
  have h1:a*q≤p:=h.lo
  have h2:p≤b*q:=h.hi
  have hqq:0≤q*q:=HZ q
  have ea:a*a*(q*q)=(a*q)*(a*q):=by grind
  have eb:b*b*(q*q)=(b*q)*(b*q):=by grind
  have hb:=HZ p
  refine PC hqq ?_ ?_
  ·show (if a≤0∧0≤b then 0 else min (a*a) (b*b))*(q*q)≤p*p
   split
   ·rw [Int.zero_mul]; exact hb
   ·rename_i hn
    by_cases ha:0<a
    ·have h3:0≤a*q:=Int.mul_nonneg (by omega) (by omega)
     have h4:=Ic (x:=a*q) (y:=p) (by omega) h1
     have h5:min (a*a) (b*b)*(q*q)≤a*a*(q*q):=Int.mul_le_mul_of_nonneg_right (by omega) hqq
     omega
    ·have hb':b<0:=by omega
     have h3:b*q≤0:=Int.mul_nonpos_of_nonpos_of_nonneg (by omega) (by omega)
     have h4:=Ic (x:=b*q) (y:= -p) (by omega) (by omega)
     have h6: -p* -p=p*p:=by rw [Int.neg_mul_neg]
     have h5:min (a*a) (b*b)*(q*q)≤b*b*(q*q):=Int.mul_le_mul_of_nonneg_right (by omega) hqq
     omega
  ·show p*p≤max (a*a) (b*b)*(q*q)
   by_cases hp:0≤p
   ·have h4:=Ic (x:=p) (y:=b*q) (by omega) h2
    have h5:b*b*(q*q)≤max (a*a) (b*b)*(q*q):=Int.mul_le_mul_of_nonneg_right (by omega) hqq
    omega
   ·have h4:=Ic (x:=p) (y:= -(a*q)) (by omega) (by omega)
    have h6: -(a*q)* -(a*q)=(a*q)*(a*q):=by rw [Int.neg_mul_neg]
    have h5:a*a*(q*q)≤max (a*a) (b*b)*(q*q):=Int.mul_le_mul_of_nonneg_right (by omega) hqq
    omega
theorem mulR_pt {p q r s:Int} {X Y Z:I2} (hq:0<q) (hs:0<s) (h:Pt p q X) (h':Pt r s Y) (e:mulR X Y= .ok Z):Pt (p*r) (16777216*(q*s)) Z:=by
 unfold mulR imul at e
 cases hv:V X.1 X.2&&V Y.1 Y.2 with
 |false=>rw [hv] at e; have:=O1 e; omega
 | true=>
  rw [hv,cond_true] at e
  rw [Pl e]
  obtain ⟨a,b⟩:=X
  obtain ⟨c,d⟩:=Y
  have k:=mul_in h.lo h.hi h'.lo h'.hi
  have hqs:0≤q*s:=Int.mul_nonneg (by omega) (by omega)
  have e1:a*q*(c*s)=a*c*(q*s):=by grind
  have e2:a*q*(d*s)=a*d*(q*s):=by grind
  have e3:b*q*(c*s)=b*c*(q*s):=by grind
  have e4:b*q*(d*s)=b*d*(q*s):=by grind
  simp only [e1,e2,e3,e4] at k
  have mn:∀ {x y:Int},min x y*(q*s)=min (x*(q*s)) (y*(q*s)):=fun {x y} =>by
   rcases Int.le_total x y with hxy|hxy
   ·have:=Int.mul_le_mul_of_nonneg_right hxy hqs
    rw [Int.min_eq_left hxy,Int.min_eq_left this]
   ·have:=Int.mul_le_mul_of_nonneg_right hxy hqs
    rw [Int.min_eq_right hxy,Int.min_eq_right this]
  have mx:∀ {x y:Int},max x y*(q*s)=max (x*(q*s)) (y*(q*s)):=fun {x y} =>by
   rcases Int.le_total x y with hxy|hxy
   ·have:=Int.mul_le_mul_of_nonneg_right hxy hqs
    rw [Int.max_eq_right hxy,Int.max_eq_right this]
   ·have:=Int.mul_le_mul_of_nonneg_right hxy hqs
    rw [Int.max_eq_left hxy,Int.max_eq_left this]
  refine PC hqs ?_ ?_
  ·show mn4 (a*c) (a*d) (b*c) (b*d)*(q*s)≤_
   have:mn4 (a*c) (a*d) (b*c) (b*d)*(q*s)=mn4 (a*c*(q*s)) (a*d*(q*s)) (b*c*(q*s)) (b*d*(q*s)):=by simp only [mn4,mn]
   rw [this]; exact k.1
  ·show _≤mx4 (a*c) (a*d) (b*c) (b*d)*(q*s)
   have:mx4 (a*c) (a*d) (b*c) (b*d)*(q*s)=mx4 (a*c*(q*s)) (a*d*(q*s)) (b*c*(q*s)) (b*d*(q*s)):=by simp only [mx4,mx]
   rw [this]; exact k.2
theorem divR_pt {p q r s:Int} {X Y Z:I2} (hq:0<q) (hs:0<s) (hr:0<r) (h:Pt p q X) (h':Pt r s Y) (e:divR X Y= .ok Z):Pt (p*16777216*s) (q*r) Z:=by
  unfold divR idiv at e
  cases hv:V X.1 X.2&&V Y.1 Y.2 with
  |false=>rw [hv] at e; have:=O1 e; omega
  | true=>
    rw [hv,cond_true] at e
    obtain ⟨a,b⟩:=X
    obtain ⟨c,d⟩:=Y
    have h1:a*q≤p:=h.lo
    have h2:p≤b*q:=h.hi
    have h3:c*s≤r:=h'.lo
    have h4:r≤d*s:=h'.hi
    have hd:0<d:=by
      rcases Int.lt_or_le 0 d with h|h
      · exact h
      · have:=Int.mul_nonpos_of_nonpos_of_nonneg (a:=d) (b:=s) h (by omega); omega
    simp only at e
    split at e
    · have:=O1 e; omega
    · rename_i hn
      rw [if_neg (by omega)] at e
      have hc:0<c:=by omega
      unfold pdiv at e
      rw [Pl e]
      have hqs:0≤q*s:=Int.mul_nonneg (by omega) (by omega)
      have hqr:0≤q*r:=Int.mul_nonneg (by omega) (by omega)
      have r1:q*(c*s)≤q*r:=Int.mul_le_mul_of_nonneg_left h3 (by omega)
      have r2:q*r≤q*(d*s):=Int.mul_le_mul_of_nonneg_left h4 (by omega)
      have up:∀ {x:Int},x*(16777216*s)=x*16777216*s:=fun {x} =>by rw [Int.mul_assoc]
      have lo1:a*16777216*(q*s)≤p*16777216*s:=by
        have:=Int.mul_le_mul_of_nonneg_right h1 (show 0≤16777216*s by omega)
        have e1:a*16777216*(q*s)=a*q*(16777216*s):=by grind
        have e2:p*16777216*s=p*(16777216*s):=by grind
        omega
      have hi1:p*16777216*s≤b*16777216*(q*s):=by
        have:=Int.mul_le_mul_of_nonneg_right h2 (show 0≤16777216*s by omega)
        have e1:b*16777216*(q*s)=b*q*(16777216*s):=by grind
        have e2:p*16777216*s=p*(16777216*s):=by grind
        omega
      constructor
      · show min (a*16777216/c) (a*16777216/d)*(q*r)≤p*16777216*s
        generalize hL:min (a*16777216/c) (a*16777216/d)=L
        have l1:L*c≤a*16777216:=(RE hc).1 (by omega)
        have l2:L*d≤a*16777216:=(RE hd).1 (by omega)
        by_cases hL0:0≤L
        · have:=Int.mul_le_mul_of_nonneg_left r2 hL0
          have e1:L*(q*(d*s))=L*d*(q*s):=by grind
          have:=Int.mul_le_mul_of_nonneg_right l2 hqs
          omega
        · by_cases ha:0≤a
          · have:=Int.mul_nonpos_of_nonpos_of_nonneg (a:=L) (b:=q*r) (by omega) hqr
            have:=Int.mul_nonneg (show 0≤a*16777216 by omega) hqs
            omega
          · have:=Int.mul_le_mul_of_nonpos_left (a:=L) (by omega) r1
            have e1:L*(q*(c*s))=L*c*(q*s):=by grind
            have:=Int.mul_le_mul_of_nonneg_right l1 hqs
            omega
      · show p*16777216*s≤max (cl (b*16777216) c) (cl (b*16777216) d)*(q*r)
        generalize hL:max (cl (b*16777216) c) (cl (b*16777216) d)=H
        have l1:b*16777216≤H*c:=Int.le_trans (NM hc) (Int.mul_le_mul_of_nonneg_right (by omega) (by omega))
        have l2:b*16777216≤H*d:=Int.le_trans (NM hd) (Int.mul_le_mul_of_nonneg_right (by omega) (by omega))
        by_cases hH0:0≤H
        · by_cases hb:0≤b
          · have:=Int.mul_le_mul_of_nonneg_left r1 hH0
            have e1:H*(q*(c*s))=H*c*(q*s):=by grind
            have:=Int.mul_le_mul_of_nonneg_right l1 hqs
            omega
          · have:=Int.mul_nonneg hH0 hqr
            have:=Int.mul_nonpos_of_nonpos_of_nonneg (a:=b*16777216) (b:=q*s) (by omega) hqs
            omega
        · have:=Int.mul_le_mul_of_nonpos_left (a:=H) (by omega) r2
          have e1:H*(q*(d*s))=H*d*(q*s):=by grind
          have:=Int.mul_le_mul_of_nonneg_right l2 hqs
          omega
theorem Pt.int {X:I2} (h:V2 X=true):Pt X.1 1 X:=by
 have:=Hf.1 (show V X.1 X.2=true from h)
 exact ⟨by omega,by omega⟩
end Go.Proofs.YtphlckkbihmlnaaGreatDoor.G
end
section
namespace RX
open Go Go.RowKit
theorem ct {α:Type} {b:Bool} {x y:α} (h:b=true):(bif b then x else y)=x:=by rw [h]; rfl
theorem cf {α:Type} {b:Bool} {x y:α} (h:b=false):(bif b then x else y)=y:=by rw [h]; rfl
theorem bint {n:Nat} {k:IntKind} {i:Int} :Bnd n (.int k i):=fun g g' _=>by simp
theorem bslice {n b o l c:Nat} (h:b<n):Bnd n (.slice (some ⟨b,o,none⟩) l c):=fun g g' e=>by simp [e b h]
theorem bptr {n b o:Nat} (h:b<n):Bnd n (.pointer (some ⟨b,o,none⟩)):=fun g g' e=>by simp [e b h]
theorem bclo {n:Nat} {v:Value} (h:clo 8 v=true):Bnd n v:=(clo_spec 8 v h).bnd n
theorem bnth {n i:Nat} {S:St} {v:Value} (h:Small n S) (hv:nth S.tmps i=v):Bnd n v:=by
 subst hv
 exact R7 h.1 (Clo.undef.bnd n) i
def ieq (x y:Int):Bool:=decide (x=y)
theorem HT {x y:Int} :ieq x y=true↔x=y:=by simp [ieq]
theorem bname {n m:Nat} {S:St} {b:Blk} (h:Small n S) (hb:look S.heap m=some b):m<n:=(h.2 m b hb).1
def gbuild (tm:List (Nat×Value)):Nat→Nat→List Value
 |_,0=>[]
 |i,k+1=>(match look tm i with|some v=>v|none=>GONE)::gbuild tm (i+1) k
theorem KT (tm:List (Nat×Value)):∀(k i j:Nat),nth (gbuild tm i k) j=if j<k then (match look tm (i+j) with|some v=>v|none=>GONE) else undef
 |0,i,j=>by simp [gbuild,nth]
 |k+1,i,0=>by simp [gbuild,nth]
 | k+1,i,j+1=>by
  simp only [gbuild,nth]
  rw [KT tm k (i+1) j,show i+1+j=i+(j+1) from by omega]
  by_cases h:j<k
  ·rw [if_pos h,if_pos (by omega)]
  ·rw [if_neg h,if_neg (by omega)]
theorem Iq (tm:List (Nat×Value)):∀(k i:Nat),(gbuild tm i k).length=k
 |0,i=>rfl
 |k+1,i=>by simp [gbuild,Iq tm k (i+1)]
theorem KU {tm:List (Nat×Value)} {v:Value} :∀ {k i:Nat},v∈gbuild tm i k→v=GONE∨∃j,look tm j=some v
 |0,i,h=>by simp [gbuild] at h
 | k +1,i,h=>by
  simp only [gbuild,List.mem_cons] at h
  rcases h with h|h
  ·subst h
   cases hl:look tm i with
   |none=>exact .inl rfl
   |some v=>exact .inr ⟨i,hl⟩
  ·exact KU h
inductive Each {α:Type} (p:α→Prop):List α→Prop
 |nil:Each p []
 |cons {x:α} {l:List α} :p x→Each p l→Each p (x::l)
theorem Each.mem {α:Type} {p:α→Prop} {l:List α} (h:Each p l):∀x∈l,p x:=by
 induction h with
 |nil=>intro x hx; cases hx
 | cons h _ ih=>
  intro x hx
  cases hx with
  |head=>exact h
  |tail _ hx=>exact ih x hx
theorem Gr {T:List Value} {H:Heap} {n k:Nat} {tm:List (Nat×Value)} {H':Heap} (hl:T.length=k) (ht:Each (fun p:Nat×Value=>nth T p.1=p.2∧Bnd n p.2) tm) (hh:Each (fun q:Nat×Blk=>look H q.1=some q.2∧q.1<n∧q.2.clo=true) H'):Wk T H n ⟨gbuild tm 0 k,H',n⟩:=by
 refine ⟨rfl,by rw [Iq,hl],fun i hi=> ?_,fun m b hm=>(hh.mem _ (GZ hm)).1,⟨fun v hv=> ?_,fun m b hm=>⟨(hh.mem _ (GZ hm)).2.1,fun c hc=>(Blk.clo_spec (hh.mem _ (GZ hm)).2.2 c hc).bnd n⟩⟩⟩
 ·show nth (gbuild tm 0 k) i=nth T i
  have hi':Fx (nth (gbuild tm 0 k) i)=false:=hi
  rw [KT,Nat.zero_add] at hi' ⊢
  by_cases hk:i<k
  ·rw [if_pos hk] at hi' ⊢
   cases hlk:look tm i with
   |none=>rw [hlk] at hi'; simp [GONE,Fx] at hi'
   |some v=>exact (ht.mem _ (GZ hlk)).1.symm
  ·rw [if_neg hk,Ip (by omega)]
 ·rcases KU hv with rfl|⟨j,hj⟩
  ·exact bclo rfl
  ·exact (ht.mem _ (GZ hj)).2
section
variable {P:Program} {N:Nat→Prop} {E:Env} {L:List (Nat×LSpec)} {f:Nat} {c:Code}
theorem Lk {t u:LSpec} (h1:LOKn P N c t) (h2:LOKn P N c u):LOKn P N c (fun S=>match t S with|some lt=>some lt|none=>u S):=fun S lt x S' ht hat=>by
 simp only at ht
 split at ht
 ·rename_i lt' h
  injection ht with ht
  subst ht
  exact h1 S _ x S' h hat
 ·exact h2 S lt x S' ht hat
end
theorem Fv {P:Program} {N:Nat→Prop} {b c:Code} {i:Nat} {t:LSpec} {L:List (Nat×LSpec)} (hl:(Gq b).filter (fun p=>Nat.beq i p.1)=[(i,c)]) (h:LOKn P N c t) (r:LsOkn P N L b):LsOkn P N ((i,t)::L) b:=fun p hp t' ht=>by
 simp only [look] at ht
 cases he:Nat.beq i p.1 with
 |false=>rw [he] at ht; exact r p hp t' ht
 | true=>
  rw [he] at ht
  simp only [cond_true,zS] at ht
  subst ht
  have hm:p∈(Gq b).filter (fun p=>Nat.beq i p.1):=List.mem_filter.2 ⟨hp,he⟩
  rw [hl,List.mem_singleton] at hm
  subst hm
  exact h
def Jl (c:Code) (i:Nat):Code:=match look (Gq c) i with|some c=>c|none=> .skip
structure WkR (ρ:Nat→Nat) (T:List Value) (H:Heap) (n:Nat) (S:St):Prop where
 nx:S.nxt=n
 len:S.tmps.length=T.length
 tms:∀i,Fx (nth S.tmps i)=false→Fx (nth T i)=false∧∀g:Nat→Nat,ren g (nth T i)=ren (fun m=>g (ρ m)) (nth S.tmps i)
 hp:∀m b,look S.heap m=some b→look H (ρ m)=some b∧∀c∈b.cells,Clo c
 inj:∀m k b c,look S.heap m=some b→look S.heap k=some c→ρ m=ρ k→m=k
 sm:Small n S
theorem SRel.wkR {W0:World} {out:Nat→Prop} {g0:Nat→Nat} {n:Nat} {S S':St} {ρ:Nat→Nat} {a:Act} {w:World} (h:SRel W0 out g0 0 S a w) (hw:WkR ρ S.tmps S.heap n S'):SRel W0 out g0 0 S' a w:=by
 obtain ⟨g,_,_,tr,hr⟩:=h
 refine ⟨fun m=>g (ρ m),fun n hn=>absurd hn (Nat.not_lt_zero _),Nat.zero_le _,⟨by rw [tr.sz,hw.len],fun i hi=> ?_,tr.df,by rw [hw.nx]; exact hw.sm.1⟩,?_⟩
 ·obtain ⟨h1,h2⟩:=hw.tms i hi
  rw [tr.tm i h1,h2 g]
 ·rw [hw.nx]
  refine ⟨fun m b hm=>(hw.sm.2 m b hm).1,fun m b hm=>(hw.sm.2 m b hm).2,fun m b hm=> ?_,fun m k b c hm hk e=> ?_,fun m b hm=>hr.own _ b (hw.hp m b hm).1,hr.keep,hr.tabs,fun m b hm=>hr.ntab _ b (hw.hp m b hm).1⟩
  ·obtain ⟨h1,h2⟩:=hw.hp m b hm
   have:=hr.mem _ b h1
   rw [map_clo h2] at this
   rw [map_clo h2]
   exact this
  ·exact hw.inj m k b c hm hk (hr.inj _ _ b c (hw.hp m b hm).1 (hw.hp k c hk).1 e)
def mp (l:List (Nat×Nat)) (n:Nat):Nat:=match look l n with|some m=>m|none=>n
def nodB:List Nat→Bool
 |[]=>true
 |a::r=> !(memN a r)&&nodB r
theorem R8:∀ {l:List Nat},nodB l=true→l.Nodup
 |[],_=>List.nodup_nil
 | a::r,h=>by
  simp only [nodB,zB,Bool.not_eq_true'] at h
  refine List.nodup_cons.2 ⟨fun hm=> ?_,R8 h.2⟩
  rw [Gt.2 hm] at h
  cases h.1
theorem wkR_of {ρ:Nat→Nat} {T:List Value} {H:Heap} {n k:Nat} {tm:List (Nat×Value)} {H':Heap} (hl:T.length=k) (ht:Each (fun p:Nat×Value=>(Fx (nth T p.1)=false∧∀g:Nat→Nat,ren g (nth T p.1)=ren (fun m=>g (ρ m)) p.2)∧Bnd n p.2) tm) (hh:Each (fun q:Nat×Blk=>look H (ρ q.1)=some q.2∧q.1<n∧q.2.clo=true) H') (hi0:nodB (H'.map fun q=>ρ q.1)=true):WkR ρ T H n ⟨gbuild tm 0 k,H',n⟩:=by
 have hi:=R8 hi0
 refine ⟨rfl,by rw [Iq,hl],fun i hi=> ?_,fun m b hm=>⟨(hh.mem _ (GZ hm)).1,Blk.clo_spec (hh.mem _ (GZ hm)).2.2⟩,fun m k' b c hm hk e=> ?_,⟨fun v hv=> ?_,fun m b hm=>⟨(hh.mem _ (GZ hm)).2.1,fun c hc=>(Blk.clo_spec (hh.mem _ (GZ hm)).2.2 c hc).bnd n⟩⟩⟩
 ·show Fx (nth T i)=false∧∀g:Nat→Nat,ren g (nth T i)=ren (fun m=>g (ρ m)) (nth (gbuild tm 0 k) i)
  have hi':Fx (nth (gbuild tm 0 k) i)=false:=hi
  rw [KT,Nat.zero_add] at hi' ⊢
  by_cases hk:i<k
  ·rw [if_pos hk] at hi' ⊢
   cases hlk:look tm i with
   |none=>rw [hlk] at hi'; simp [GONE,Fx] at hi'
   |some v=>exact (ht.mem _ (GZ hlk)).1
  ·rw [if_neg hk] at hi' ⊢
   have hT:nth T i=undef:=Ip (by omega)
   rw [hT]
   exact ⟨hi',fun g=>rfl⟩
 ·have h1:=GZ hm
  have h2:=GZ hk
  obtain ⟨i,hi1,hi2⟩:=List.getElem_of_mem h1
  obtain ⟨j,hj1,hj2⟩:=List.getElem_of_mem h2
  have hij:i=j:=K1 hi (by simpa using hi1) (by simpa using hj1) (by simp only [List.getElem_map,hi2,hj2]; exact e)
  subst hij
  rw [hi2] at hj2
  injection hj2
 ·rcases KU hv with rfl|⟨j,hj⟩
  ·exact bclo rfl
  ·exact (ht.mem _ (GZ hj)).2
inductive Lpe (P:Program) (c:Code):St→X→St→Prop
 |step {E:Env} {f:Nat} {S:St} {T:List Value} {H:Heap} {x:X} {S2 S':St} {ρ:Nat→Nat} :EnvOk P E→exec P E [] (hs P E f).lf (hs P E f).cf c S (fun x S=>some (x,S.tmps,S.heap))=some (.normal,T,H)→(Small S.nxt S→WkR ρ T H S.nxt S2)→Lpe P c S2 x S'→Lpe P c S x S'
 |stop {E:Env} {f:Nat} {S:St} {T:List Value} {H:Heap} {x:X} {S2:St} {ρ:Nat→Nat} :EnvOk P E→exec P E [] (hs P E f).lf (hs P E f).cf c S (fun x S=>some (x,S.tmps,S.heap))=some (x,T,H)→x≠ .normal→(Small S.nxt S→WkR ρ T H S.nxt S2)→Lpe P c S x S2
 |enter {S S2:St} {x:X} {S':St} :(Small S.nxt S→Wk S.tmps S.heap S.nxt S2)→Lpe P c S2 x S'→Lpe P c S x S'
def Qu (S:St):List Nat→List Value
 |[]=>[]
 |i::r=>nth S.tmps i::Qu S r
def Qv (S:St):List Nat→List (Option Blk)
 |[]=>[]
 |i::r=>look S.heap i::Qv S r
theorem PF (S:St):∀is,Qu S is=is.map (nth S.tmps)
 |[]=>rfl
 |i::r=>by simp [Qu,PF S r]
theorem PG (S:St):∀is,Qv S is=is.map (look S.heap)
 |[]=>rfl
 |i::r=>by simp [Qv,PG S r]
def pick (k:Nat) (is bs:List Nat) (x:X) (S:St):Option (X×List Value×List (Option Blk)):=bif Nat.beq S.tmps.length k then some (x,Qu S is,Qv S bs) else none
def lkT (S:St):List Nat→List Value
 |[]=>[]
 |i::r=>nth S.tmps i::lkT S r
def lkH (S:St):List Nat→List (Option Blk)
 |[]=>[]
 |i::r=>look S.heap i::lkH S r
theorem Sv (S:St):∀is,lkT S is=is.map (nth S.tmps)
 |[]=>rfl
 |i::r=>by simp [lkT,Sv S r]
theorem Sw (S:St):∀is,lkH S is=is.map (look S.heap)
 |[]=>rfl
 |i::r=>by simp [lkH,Sw S r]
def lk (is bs:List Nat) (x:X) (S:St):Option (X×List Value×List (Option Blk)):=some (x,lkT S is,lkH S bs)
theorem RD {is bs:List Nat} {x:X} {S:St} :lk is bs x S=some (x,is.map (nth S.tmps),bs.map (look S.heap)):=by rw [lk,Sv,Sw]
theorem Nk {k:Nat} {is bs:List Nat} {x y:X} {S:St} {vals:List Value} {blks:List (Option Blk)} (h:pick k is bs x S=some (y,vals,blks)):x=y∧S.tmps.length=k∧is.map (nth S.tmps)=vals∧bs.map (look S.heap)=blks:=by
 unfold pick at h
 cases hb:Nat.beq S.tmps.length k with
 |false=>rw [hb] at h; cases h
 | true=>
  rw [hb] at h
  simp only [cond_true,zS,zP,PF,PG] at h
  exact ⟨h.1,zE hb,h.2.1,h.2.2⟩
def Found (N:Nat→Prop) (n k:Nat) (is bs:List Nat) (vals:List Value) (blks:List (Option Blk)) (S2:St):Prop:=
 ∀ U:St,U.tmps.length=k→is.map (nth U.tmps)=vals→bs.map (look U.heap)=blks→
  ∀(W0:World) (out:Nat→Prop) (g0:Nat→Nat) (n0:Nat) (a:Act) (w:World),N n0→n0≤n→SRel W0 out g0 n0 U a w→SRel W0 out g0 n0 S2 a w
inductive Lq (P:Program) (N:Nat→Prop) (c:Code):St→X→St→Prop
 |step {E:Env} {L:List (Nat×LSpec)} {f:Nat} {S S2 S':St} {x:X} {is bs:List Nat} {k:Nat} {vals:List Value} {blks:List (Option Blk)} :EnvOk P E→LsOkn P N L c→
  exec P E L (hs P E f).lf (hs P E f).cf c S (pick k is bs)=some (.normal,vals,blks)→(Small S.nxt S→Found N S.nxt k is bs vals blks S2)→Lq P N c S2 x S'→Lq P N c S x S'
 |stop {E:Env} {L:List (Nat×LSpec)} {f:Nat} {S S2:St} {x:X} {is bs:List Nat} {k:Nat} {vals:List Value} {blks:List (Option Blk)} :EnvOk P E→LsOkn P N L c→
  exec P E L (hs P E f).lf (hs P E f).cf c S (pick k is bs)=some (x,vals,blks)→x≠ .normal→(Small S.nxt S→Found N S.nxt k is bs vals blks S2)→Lq P N c S x S2
 |enter {S S2 S':St} {x:X} :(Small S.nxt S→Wk S.tmps S.heap S.nxt S2)→Lq P N c S2 x S'→Lq P N c S x S'
theorem Rk {P:Program} {N:Nat→Prop} {c:Code} {S:St} {x:X} {S':St} (h:Lq P N c S x S')
  {W0:World} {out:Nat→Prop} {g0:Nat→Nat} {n0:Nat} (hN:N n0) {Q:Exit→Act→World→Prop} (hQ:∀a' w',SRel W0 out g0 n0 S' a' w'→Q x.to a' w'):
  ∃n,∀(a:Act) (w:World),SRel W0 out g0 n0 S a w→Code.rounds P c Q n a w:=by
 induction h with
 | @step E L f S S2 S' x is bs k vals blks hE hL he hs _ ih=>
  obtain ⟨n,hn⟩:=ih hQ
  refine ⟨n+1,fun a w hr=> ?_⟩
  rw [rounds_succ]
  obtain ⟨hn',hsm⟩:=hr.small
  refine Gy hE (KI hE f) (KJ hE f) c hL S _ _ he W0 out g0 n0 a w _ hN hr fun y U a' w' hy ht=> ?_
  obtain ⟨rfl,h1,h2,h3⟩:=Nk hy
  exact hn a' w' (hs hsm U h1 h2 h3 W0 out g0 n0 a' w' hN hn' ht)
 | @stop E L f S S2 x is bs k vals blks hE hL he hx hs=>
  refine ⟨1,fun a w hr=> ?_⟩
  rw [rounds_succ]
  obtain ⟨hn',hsm⟩:=hr.small
  refine Gy hE (KI hE f) (KJ hE f) c hL S _ _ he W0 out g0 n0 a w _ hN hr fun y U a' w' hy ht=> ?_
  obtain ⟨rfl,h1,h2,h3⟩:=Nk hy
  have:=hQ a' w' (hs hsm U h1 h2 h3 W0 out g0 n0 a' w' hN hn' ht)
  cases y with
  |normal=>exact absurd rfl hx
  |exit i=>exact this
  |ret=>exact this
 | @enter S S2 S' x hw _ ih=>
  obtain ⟨n,hn⟩:=ih hQ
  exact ⟨n,fun a w hr=>hn a w (hr.wk hr.small.1 (hw hr.small.2))⟩
theorem Ge {P:Program} {N:Nat→Prop} {c:Code} {t:LSpec} (h:∀S lt x S',t S=some lt→lt.at=some (x,S')→Lq P N c S x S'):LOKn P N c t:=fun S lt x S' ht hat W0 out g0 n0 a w Q hN hr hQ=>by
 obtain ⟨n,hn⟩:=Rk (h S lt x S' ht hat) hN (Q:=Q) hQ
 exact wp_loop_rounds n (hn a w hr)
theorem N6 {T:List Value} :∀ {is:List Nat} {i:Nat} {v:Value},look (is.zip (is.map (nth T))) i=some v→nth T i=v
 |[],i,v,h=>by simp [look] at h
 | j ::r,i,v,h=>by
  simp only [List.map_cons,List.zip_cons_cons,look] at h
  cases hb:Nat.beq j i with
  | true=>
   rw [hb] at h
   simp only [cond_true,zS] at h
   rw [←zE hb]; exact h
  |false=>rw [hb] at h; exact N6 h
theorem Li {H:Heap} :∀ {bs:List Nat} {m:Nat} {b:Option Blk},look (bs.zip (bs.map (look H))) m=some b→look H m=b
 |[],m,b,h=>by simp [look] at h
 | j ::r,m,b,h=>by
  simp only [List.map_cons,List.zip_cons_cons,look] at h
  cases hb:Nat.beq j m with
  | true=>
   rw [hb] at h
   simp only [cond_true,zS] at h
   rw [←zE hb]; exact h
  |false=>rw [hb] at h; exact Li h
theorem q_of {N:Nat→Prop} {n k:Nat} {is bs:List Nat} {vals:List Value} {blks:List (Option Blk)} {tm:List (Nat×Value)} {hp:List (Nat×Blk)}
  (ht:Each (fun p:Nat×Value=>look (is.zip vals) p.1=some p.2∧Bnd n p.2) tm) (hh:Each (fun q:Nat×Blk=>look (bs.zip blks) q.1=some (some q.2)∧q.1<n∧q.2.clo=true) hp):
  Found N n k is bs vals blks ⟨gbuild tm 0 k,hp,n⟩:=fun U hk hi hb W0 out g0 n0 a w _ hn hr=>by
 subst hi hb
 refine hr.wk hn (Gr hk ?_ ?_)
 ·have:∀ {l:List (Nat×Value)},Each (fun p:Nat×Value=>look (is.zip (is.map (nth U.tmps))) p.1=some p.2∧Bnd n p.2) l→Each (fun p:Nat×Value=>nth U.tmps p.1=p.2∧Bnd n p.2) l:=by
   intro l h
   induction h with
   |nil=>exact .nil
   |cons h _ ih=>exact .cons ⟨N6 h.1,h.2⟩ ih
  exact this ht
 ·have:∀ {l:List (Nat×Blk)},Each (fun q:Nat×Blk=>look (bs.zip (bs.map (look U.heap))) q.1=some (some q.2)∧q.1<n∧q.2.clo=true) l→Each (fun q:Nat×Blk=>look U.heap q.1=some q.2∧q.1<n∧q.2.clo=true) l:=by
   intro l h
   induction h with
   |nil=>exact .nil
   |cons h _ ih=>exact .cons ⟨Li h.1,h.2⟩ ih
  exact this hh
theorem M4 {n k:Nat} {is bs:List Nat} {vals:List Value} {blks:List (Option Blk)} {tm:List (Nat×Value)} {hp:List (Nat×Blk)} {ρ:Nat→Nat}
  (ht:Each (fun p:Nat×Value=>(∃u,look (is.zip vals) p.1=some u∧Fx u=false∧∀g:Nat→Nat,ren g u=ren (fun m=>g (ρ m)) p.2)∧Bnd n p.2) tm) (hh:Each (fun q:Nat×Blk=>look (bs.zip blks) (ρ q.1)=some (some q.2)∧q.1<n∧q.2.clo=true) hp) (hi0:nodB (hp.map fun q=>ρ q.1)=true):
  Found (fun n0=>n0=0) n k is bs vals blks ⟨gbuild tm 0 k,hp,n⟩:=fun U hk hi hb W0 out g0 n0 a w hn0 hn hr=>by
 subst hn0
 subst hi hb
 refine (show SRel W0 out g0 0 U a w from hr).wkR (ρ:=ρ) (n:=n) (wkR_of hk ?_ ?_ hi0)
 ·have:∀ {l:List (Nat×Value)},Each (fun p:Nat×Value=>(∃u,look (is.zip (is.map (nth U.tmps))) p.1=some u∧Fx u=false∧∀g:Nat→Nat,ren g u=ren (fun m=>g (ρ m)) p.2)∧Bnd n p.2) l→Each (fun p:Nat×Value=>(Fx (nth U.tmps p.1)=false∧∀g:Nat→Nat,ren g (nth U.tmps p.1)=ren (fun m=>g (ρ m)) p.2)∧Bnd n p.2) l:=by
   intro l h
   induction h with
   |nil=>exact .nil
   | cons h _ ih=>
    obtain ⟨⟨u,h1,h2,h3⟩,h4⟩:=h
    exact .cons ⟨by rw [N6 h1]; exact ⟨h2,h3⟩,h4⟩ ih
  exact this ht
 ·have:∀ {l:List (Nat×Blk)},Each (fun q:Nat×Blk=>look (bs.zip (bs.map (look U.heap))) (ρ q.1)=some (some q.2)∧q.1<n∧q.2.clo=true) l→Each (fun q:Nat×Blk=>look U.heap (ρ q.1)=some q.2∧q.1<n∧q.2.clo=true) l:=by
   intro l h
   induction h with
   |nil=>exact .nil
   |cons h _ ih=>exact .cons ⟨Li h.1,h.2⟩ ih
  exact this hh
theorem ruS {l:List (Nat×Nat)} {p q o k c:Nat} (h:mp l p=q):Fx (.slice (some ⟨q,o,none⟩) k c)=false∧∀g:Nat→Nat,ren g (.slice (some ⟨q,o,none⟩) k c)=ren (fun m=>g (mp l m)) (.slice (some ⟨p,o,none⟩) k c):=⟨rfl,fun g=>by rw [Hn,Hn,h]⟩
theorem ruP {l:List (Nat×Nat)} {p q o:Nat} (h:mp l p=q):Fx (.pointer (some ⟨q,o,none⟩))=false∧∀g:Nat→Nat,ren g (.pointer (some ⟨q,o,none⟩))=ren (fun m=>g (mp l m)) (.pointer (some ⟨p,o,none⟩)):=⟨rfl,fun g=>by rw [Kp,Kp,h]⟩
def gcov (is:List Nat):Nat→List Value→Bool
 |_,[]=>true
 |i,v::r=>(Fx v||memN i is)&&gcov is (i+1) r
theorem K7 {is:List Nat} :∀ {T:List Value} {i j:Nat},gcov is i T=true→j<T.length→Fx (nth T j)=false→memN (i+j) is=true
 |[],i,j,_,hj,_=>by simp at hj
 | v::r,i,0,h,_,hg=>by
  simp only [gcov,zB,Bool.or_eq_true] at h
  rcases h.1 with h|h
  ·rw [show nth (v::r) 0=v from rfl,h] at hg; cases hg
  ·exact h
 | v::r,i,j+1,h,hj,hg=>by
  simp only [gcov,zB] at h
  have:=K7 (j:=j) h.2 (by simpa using hj) hg
  rwa [show i+1+j=i+(j+1) from by omega] at this
def covB (k:Nat) (is bs:List Nat) (n:Nat) (S2:St):Bool:=
 Nat.beq S2.nxt n&&Nat.beq S2.tmps.length k&&gcov is 0 S2.tmps&&S2.tmps.all (okV (fun m=>Nat.blt m n) 8)&&S2.heap.all (fun q=>memN q.1 bs&&Nat.blt q.1 n&&q.2.clo)
theorem KW {α β:Type} {f g:α→β} {a:α} :∀ {l:List α},l.map f=l.map g→a∈l→f a=g a
 | x::l,h,hm=>by
  simp only [List.map_cons,List.cons.injEq] at h
  rcases List.mem_cons.1 hm with rfl|hm
  ·exact h.1
  ·exact KW h.2 hm
theorem Nu {N:Nat→Prop} {n k:Nat} {is bs:List Nat} {S2:St} (hc:covB k is bs n S2=true):Found N n k is bs (is.map (nth S2.tmps)) (bs.map (look S2.heap)) S2:=fun U hk hi hb W0 out g0 n0 a w _ hn hr=>by
  simp only [covB,zB,List.all_eq_true] at hc
  obtain ⟨⟨⟨⟨c1,c2⟩,c3⟩,c4⟩,c5⟩:=hc
  have c1:=zE c1
  have c2:=zE c2
  refine hr.wk (n:=n) hn ⟨c1,by rw [c2,hk],fun i hg=> ?_,fun m b hm=> ?_,fun v hv=>fun g g' e=>I9 (fun m hm=>e m (by simpa [Nat.blt_eq] using hm)) 8 v (c4 v hv),fun m b hm=> ?_⟩
  · by_cases hlt:i<S2.tmps.length
    · have:=K7 c3 hlt hg
      rw [Nat.zero_add] at this
      exact (KW hi (Gt.1 this)).symm
    · rw [Ip (by omega),Ip (by omega)]
  · have:=c5 _ (GZ hm)
    exact (KW hb (Gt.1 this.1.1)).trans hm
  · have:=c5 _ (GZ hm)
    exact ⟨by simpa [Nat.blt_eq] using this.1.2,fun c hc=>(Blk.clo_spec this.2 c hc).bnd n⟩
theorem Lq.to {P:Program} {N:Nat→Prop} {c:Code} {E:Env} {L:List (Nat×LSpec)} {f:Nat} {S S2 S':St} {x:X} {is bs:List Nat} {k:Nat} (hE:EnvOk P E) (hL:LsOkn P N L c)
  (he:exec P E L (hs P E f).lf (hs P E f).cf c S (pick k is bs)=lk is bs .normal S2) (hc:covB k is bs S.nxt S2=true) (h:Lq P N c S2 x S'):Lq P N c S x S':=by
 exact .step hE hL (he.trans RD) (fun _=>Nu hc) h
theorem Lq.end {P:Program} {N:Nat→Prop} {c:Code} {E:Env} {L:List (Nat×LSpec)} {f:Nat} {S S2:St} {x:X} {is bs:List Nat} {k:Nat} (hE:EnvOk P E) (hL:LsOkn P N L c)
  (he:exec P E L (hs P E f).lf (hs P E f).cf c S (pick k is bs)=lk is bs x S2) (hx:x≠ .normal) (hc:covB k is bs S.nxt S2=true):Lq P N c S x S2:=by
 exact .stop hE hL (he.trans RD) hx (fun _=>Nu hc)
def covK (k:Nat) (is bs ks:List Nat) (S2:St):Bool:=
 Nat.beq S2.tmps.length k&&gcov is 0 S2.tmps&&S2.tmps.all (okV (fun m=>memN m ks) 8)&&S2.heap.all (fun q=>memN q.1 bs&&memN q.1 ks&&q.2.clo)
theorem OO {H:Heap} {m:Nat} (h:m∈H.map fun q=>q.1):∃b,look H m=some b:=by
 induction H with
 |nil=>simp at h
 | cons q r ih=>
  obtain ⟨j,b⟩:=q
  unfold look
  cases hb:Nat.beq j m with
  |true=>exact ⟨b,rfl⟩
  | false=>
   rw [List.map_cons,List.mem_cons] at h
   rcases h with h|h
   ·have:Nat.beq j m=true:=by rw [h]; exact Nat.beq_refl j
    rw [this] at hb; cases hb
   ·exact ih h
theorem T2 {H:Heap} {n m:Nat} (hs:∀m b,look H m=some b→m<n∧∀c∈b.cells,Bnd n c) (hm:memN m (H.map fun q=>q.1)=true):m<n:=by
 have:=Gt.1 hm
 obtain ⟨b,hb⟩:=OO (H:=H) this
 exact (hs m b hb).1
theorem ND {N:Nat→Prop} {k:Nat} {is bs:List Nat} {S S2:St} (hsm:Small S.nxt S) (hx:S2.nxt=S.nxt) (hc:covK k is bs (S.heap.map fun q=>q.1) S2=true):Found N S.nxt k is bs (is.map (nth S2.tmps)) (bs.map (look S2.heap)) S2:=fun U hk hi hb W0 out g0 n0 a w _ hn hr=>by
  simp only [covK,zB,List.all_eq_true] at hc
  obtain ⟨⟨⟨c2,c3⟩,c4⟩,c5⟩:=hc
  have c2:=zE c2
  refine hr.wk (n:=S.nxt) hn ⟨hx,by rw [c2,hk],fun i hg=> ?_,fun m b hm=> ?_,fun v hv=>fun g g' e=>I9 (fun m hm=>e m (T2 hsm.2 hm)) 8 v (c4 v hv),fun m b hm=> ?_⟩
  · by_cases hlt:i<S2.tmps.length
    · have:=K7 c3 hlt hg
      rw [Nat.zero_add] at this
      exact (KW hi (Gt.1 this)).symm
    · rw [Ip (by omega),Ip (by omega)]
  · have:=c5 _ (GZ hm)
    exact (KW hb (Gt.1 this.1.1)).trans hm
  · have:=c5 _ (GZ hm)
    exact ⟨T2 hsm.2 this.1.2,fun c hc=>(Blk.clo_spec this.2 c hc).bnd _⟩
abbrev rd (P:Program) (E:Env) (L:List (Nat×LSpec)) (f:Nat) (c:Code) (S:St) (k:Nat) (is bs:List Nat):=exec P E L (hs P E f).lf (hs P E f).cf c S (pick k is bs)
theorem _root_.Eq.ct {α:Type} {r x y:α} {b:Bool} (e:r=bif b then x else y) (h:b=true):r=x:=by rw [e,h]; rfl
theorem _root_.Eq.cf {α:Type} {r x y:α} {b:Bool} (e:r=bif b then x else y) (h:b=false):r=y:=by rw [e,h]; rfl
theorem Lq.toK {P:Program} {N:Nat→Prop} {c:Code} {E:Env} {L:List (Nat×LSpec)} {f:Nat} {S S2 S':St} {x:X} {is bs:List Nat} {k:Nat} (hE:EnvOk P E) (hL:LsOkn P N L c)
  (he:exec P E L (hs P E f).lf (hs P E f).cf c S (pick k is bs)=lk is bs .normal S2) (hx:S2.nxt=S.nxt) (hc:covK k is bs (S.heap.map fun q=>q.1) S2=true) (h:Lq P N c S2 x S'):Lq P N c S x S':=by
 exact .step hE hL (he.trans RD) (fun hsm=>ND hsm hx hc) h
theorem Lq.endK {P:Program} {N:Nat→Prop} {c:Code} {E:Env} {L:List (Nat×LSpec)} {f:Nat} {S S2:St} {x:X} {is bs:List Nat} {k:Nat} (hE:EnvOk P E) (hL:LsOkn P N L c)
  (he:exec P E L (hs P E f).lf (hs P E f).cf c S (pick k is bs)=lk is bs x S2) (hx':x≠ .normal) (hx:S2.nxt=S.nxt) (hc:covK k is bs (S.heap.map fun q=>q.1) S2=true):Lq P N c S x S2:=by
 exact .stop hE hL (he.trans RD) hx' (fun hsm=>ND hsm hx hc)
theorem Lq.into {P:Program} {N:Nat→Prop} {c:Code} {S S2 S':St} {x:X} (k:Nat) (is bs:List Nat) (hl:Nat.beq S.tmps.length k=true) (hn:S.nxt=S2.nxt) (ht:is.map (nth S.tmps)=is.map (nth S2.tmps)) (hh:bs.map (look S.heap)=bs.map (look S2.heap)) (hc:covB k is bs S2.nxt S2=true) (h:Lq P N c S2 x S'):Lq P N c S x S':=by
  refine .enter (fun _=> ?_) h
  simp only [covB,zB,List.all_eq_true] at hc
  obtain ⟨⟨⟨⟨c1,c2⟩,c3⟩,c4⟩,c5⟩:=hc
  have c2:=zE c2
  have hl:=zE hl
  rw [hn]
  refine ⟨rfl,by rw [c2,hl],fun i hg=> ?_,fun m b hm=> ?_,fun v hv=>fun g g' e=>I9 (fun m hm=>e m (by simpa [Nat.blt_eq] using hm)) 8 v (c4 v hv),fun m b hm=> ?_⟩
  · by_cases hlt:i<S2.tmps.length
    · have:=K7 c3 hlt hg
      rw [Nat.zero_add] at this
      exact (KW ht (Gt.1 this)).symm
    · rw [Ip (by omega),Ip (by omega)]
  · have:=c5 _ (GZ hm)
    exact (KW hh (Gt.1 this.1.1)).trans hm
  · have:=c5 _ (GZ hm)
    exact ⟨by simpa [Nat.blt_eq] using this.1.2,fun c hc=>(Blk.clo_spec this.2 c hc).bnd _⟩
end RX
end
section
namespace Go.Proofs.YtphlckkbihmlnaaGreatDoor.G
open Go RX
theorem wu32 (n:Int):u32.wrap n=n%4294967296:=by
 simp only [IntKind.wrap,IntKind.signed,IntKind.bits,Bool.false_and,Bool.false_eq_true,if_false]
 rfl
theorem wu64 (n:Int):u64.wrap n=n%18446744073709551616:=by
 simp only [IntKind.wrap,IntKind.signed,IntKind.bits,Bool.false_and,Bool.false_eq_true,if_false]
 rfl
theorem wu8 (n:Int):IntKind.u8.wrap n=n%256:=by
 simp only [IntKind.wrap,IntKind.signed,IntKind.bits,Bool.false_and,Bool.false_eq_true,if_false]
 rfl
theorem u32of {n:Int} (h:0≤n) (h':n<4294967296):u32.wrap n=n:=by rw [wu32]; exact Int.emod_eq_of_lt h h'
theorem u64of {n:Int} (h:0≤n) (h':n<18446744073709551616):u64.wrap n=n:=by rw [wu64]; exact Int.emod_eq_of_lt h h'
theorem or_nat {a c i:Nat} (h:a<2^i):(a|||c*2^i)=a+c*2^i:=by
 rw [Nat.or_comm,Nat.mul_comm c,←Nat.two_pow_add_eq_or_of_lt h]
 omega
theorem orW {k:IntKind} {w:Nat} (hk:k.bits=w) (hs:k.signed=false) {a c:Int} {i:Nat} (ha:0≤a) (h:a<((2^i:Nat):Int)) (hc:0≤c) (hb:a+c*((2^i:Nat):Int)<((2^w:Nat):Int)):Ew .or k a (c*((2^i:Nat):Int))=a+c*((2^i:Nat):Int):=by
 obtain ⟨a,rfl⟩:=Int.eq_ofNat_of_zero_le ha
 obtain ⟨c,rfl⟩:=Int.eq_ofNat_of_zero_le hc
 have h':a<2^i:=by exact_mod_cast h
 have hb':a+c*2^i<2^w:=by exact_mod_cast hb
 have e:((c:Int)*((2^i:Nat):Int))=((c*2^i:Nat):Int):=by simp
 have hv:(BitVec.ofInt k.bits (a:Int)|||BitVec.ofInt k.bits ((c*2^i:Nat):Int)).toNat=a+c*2^i:=by
  rw [hk,BitVec.toNat_or]
  simp only [BitVec.ofInt_natCast,BitVec.toNat_ofNat]
  rw [Nat.mod_eq_of_lt (by omega),Nat.mod_eq_of_lt (by omega),or_nat h']
 rw [e]
 unfold Ew
 simp only [hv]
 simp only [IntKind.wrap,hs,hk,Bool.false_and,Bool.false_eq_true,if_false]
 rw [Int.emod_eq_of_lt (by omega) (by exact_mod_cast hb')]
 simp
theorem or32 {a c:Int} {i:Nat} (ha:0≤a) (h:a<((2^i:Nat):Int)) (hc:0≤c) (hb:a+c*((2^i:Nat):Int)<4294967296):Ew .or .u32 a (c*((2^i:Nat):Int))=a+c*((2^i:Nat):Int):=orW (w:=32) rfl rfl ha h hc (by simpa using hb)
theorem or64 {a c:Int} {i:Nat} (ha:0≤a) (h:a<((2^i:Nat):Int)) (hc:0≤c) (hb:a+c*((2^i:Nat):Int)<18446744073709551616):Ew .or .u64 a (c*((2^i:Nat):Int))=a+c*((2^i:Nat):Int):=orW (w:=64) rfl rfl ha h hc (by simpa using hb)
theorem or_comm (k:IntKind) (a b:Int):Ew .or k a b=Ew .or k b a:=by
 unfold Ew
 simp only [BitVec.or_comm]
def nv:List Int→Int
 |[]=>0
 |x::r=>x+4294967296*nv r
def dig (xs:List Int):Prop:=∀x∈xs,0≤x∧x<4294967296
def digB (xs:List Int):Bool:=xs.all fun x=>decide (0≤x)&&decide (x<4294967296)
theorem Hw {xs:List Int} :digB xs=true↔dig xs:=by simp [digB,dig]
def dg:Nat→Int→List Int
 |0,_=>[]
 |k+1,v=>v%4294967296::dg k (v/4294967296)
def seg (xs:List Int) (o l:Nat):List Int:=(xs.drop o).take l
def tl:List Int→Nat
 |[]=>0
 | x::r=>match tl r with
  |0=>bif x==0 then 0 else 1
  |k+1=>k+2
theorem Di:∀(k:Nat) (v:Int),(dg k v).length=k
 |0,v=>rfl
 |k+1,v=>by simp [dg,Di k]
theorem Gn:∀(k:Nat) (v:Int),dig (dg k v)
 |0,v=>fun x h=>by simp [dg] at h
 | k+1,v=>fun x h=>by
  simp only [dg,List.mem_cons] at h
  rcases h with rfl|h
  ·exact ⟨Int.emod_nonneg _ (by decide),Int.emod_lt_of_pos _ (by decide)⟩
  ·exact Gn k _ x h
def pw (k:Nat):Int:=((4294967296^k:Nat):Int)
theorem If:pw 0=1:=rfl
theorem GS (k:Nat):pw (k+1)=4294967296*pw k:=by simp only [pw,Nat.pow_succ,Int.natCast_mul]; rw [Int.mul_comm]; rfl
theorem Gd (k:Nat):0<pw k:=by
 have:=Nat.pow_pos (n:=k) (show 0<4294967296 by decide)
 simp only [pw]; omega
theorem I0:∀(k:Nat) (v:Int),0≤v→v<pw k→nv (dg k v)=v
 |0,v,h,h'=>by rw [If] at h'; simp only [dg,nv]; omega
 | k+1,v,h,h'=>by
  rw [GS] at h'
  have hp:=Gd k
  simp only [dg,nv]
  rw [I0 k _ (Int.ediv_nonneg h (by decide)) (Int.ediv_lt_of_lt_mul (by decide) (by rw [Int.mul_comm]; exact h'))]
  exact Int.emod_add_mul_ediv v 4294967296
theorem El:∀ {xs:List Int},dig xs→0≤nv xs
 |[],_=>by simp [nv]
 | x::r,h=>by
  have h1:=h x (by simp)
  have h2:=El (xs:=r) fun y hy=>h y (by simp [hy])
  simp only [nv]; omega
theorem Gz:∀ {xs:List Int},dig xs→nv xs<pw xs.length
 |[],_=>by simp [nv,If]
 | x::r,h=>by
  have h1:=h x (by simp)
  have h2:=Gz (xs:=r) fun y hy=>h y (by simp [hy])
  simp only [nv,List.length_cons,GS]; omega
theorem Jn:∀ {xs:List Int},dig xs→dg xs.length (nv xs)=xs
 |[],_=>rfl
 | x::r,h=>by
  have h1:=h x (by simp)
  have e1:(x+4294967296*nv r)%4294967296=x:=by omega
  have e2:(x+4294967296*nv r)/4294967296=nv r:=by omega
  simp only [nv,List.length_cons,dg,e1,e2]
  rw [Jn fun y hy=>h y (by simp [hy])]
theorem Ld:∀(xs ys:List Int),nv (xs++ys)=nv xs+pw xs.length*nv ys
 |[],ys=>by simp [nv,If]
 | x::r,ys=>by
  simp only [List.cons_append,nv,Ld r ys,List.length_cons,GS,Int.mul_add,Int.mul_assoc]
  omega
theorem Fg {xs:List Int} (h:dig xs) (o l:Nat):dig (seg xs o l):=fun x hx=>h x (List.mem_of_mem_drop (List.mem_of_mem_take hx))
theorem Fh {xs:List Int} {o l:Nat} (h:o+l≤xs.length):(seg xs o l).length=l:=by simp [seg]; omega
theorem Kn {xs:List Int} {o l:Nat} (h:o+l<xs.length):seg xs o (l+1)=seg xs o l++[xs.getD (o+l) 0]:=by
 unfold seg
 rw [List.take_add_one,List.getElem?_drop,List.getElem?_eq_getElem h,List.getD_eq_getElem?_getD,List.getElem?_eq_getElem h]
 rfl
theorem Gw (xs:List Int) (o:Nat):seg xs o 0=[]:=by simp [seg]
theorem seg_all (xs:List Int):seg xs 0 xs.length=xs:=by simp [seg]
theorem Je (k:Nat) (v:Int):seg (dg k v) 0 k=dg k v:=by
 have:=seg_all (dg k v)
 rwa [Di] at this
theorem JZ:∀(xs:List Int),tl (xs++[0])=tl xs
 |[]=>rfl
 |x::r=>by simp only [List.cons_append,tl,JZ r]
theorem Pk:∀(xs:List Int) {x:Int},x≠0→tl (xs++[x])=xs.length+1
 |[],x,h=>by simp [tl,Fa h]
 |y::r,x,h=>by simp only [List.cons_append,tl,Pk r h,List.length_cons]
theorem Hz:∀(xs:List Int),tl xs≤xs.length
 |[]=>Nat.le_refl _
 | x::r=>by
  have:=Hz r
  simp only [tl,List.length_cons]
  split
  ·cases x==0<;>simp
  ·rename_i k hk; omega
theorem Mu:∀(xs:List Int),nv (xs.take (tl xs))=nv xs
 |[]=>rfl
 | x ::r=>by
  have ih:=Mu r
  simp only [tl]
  split
  ·rename_i h0
   rw [h0] at ih
   simp only [List.take_zero,nv] at ih
   cases hx:x==0 with
   | true=>
    have:x=0:=by simpa using hx
    simp only [cond_true,List.take_zero,nv]; omega
   |false=>simp only [cond_false,List.take_succ_cons,List.take_zero,nv]; omega
  ·rename_i k hk
   rw [hk] at ih
   simp only [List.take_succ_cons,nv,ih]
theorem MC:∀ {xs:List Int},dig xs→(tl xs=0↔nv xs=0)
 |[],_=>by simp [tl,nv]
 | x ::r,h=>by
  have h1:=h x (by simp)
  have hr:dig r:=fun y hy=>h y (by simp [hy])
  have ih:=MC hr
  have h2:=El hr
  simp only [tl,nv]
  split
  ·rename_i h0
   have:=ih.1 h0
   cases hx:x==0 with
   | true=>
    have:x=0:=by simpa using hx
    simp only [cond_true,true_iff]; omega
   | false=>
    have:x≠0:=by simpa using hx
    simp only [cond_false]; omega
  ·rename_i k hk
   have:nv r≠0:=fun e=>by have:=ih.2 e; omega
   omega
theorem QX:∀ {xs:List Int} {k:Nat},dig xs→tl xs=k+1→pw k≤nv xs
 |[],k,_,h=>by simp [tl] at h
 | x ::r,k,hd,h=>by
  have h1:=hd x (by simp)
  have hr:dig r:=fun y hy=>hd y (by simp [hy])
  have h2:=El hr
  simp only [tl] at h
  simp only [nv]
  split at h
  ·cases hx:x==0 with
   |true=>rw [hx] at h; simp at h
   | false=>
    rw [hx] at h
    have:x≠0:=by simpa using hx
    have:k=0:=by simpa using h.symm
    subst this
    rw [If]; omega
  ·rename_i j hj
   have:k=j+1:=by omega
   subst this
   have:=QX hr hj
   rw [GS]; omega
theorem Nm {xs:List Int} (h:dig xs) (k:Nat):nv (seg xs 0 (tl xs))=nv xs:=by
 unfold seg
 rw [List.drop_zero,Mu]
theorem TA {xs:List Int} {o l i:Nat} (hi:i<l):(seg xs o l).getD i 0=xs.getD (o+i) 0:=by
 simp only [seg,List.getD_eq_getElem?_getD,List.getElem?_take,hi,if_true,List.getElem?_drop]
theorem Fj {xs:List Int} (h:dig xs) (i:Nat):0≤xs.getD i 0∧xs.getD i 0<4294967296:=by
 rw [List.getD_eq_getElem?_getD]
 cases hx:xs[i]? with
 |none=>simp
 |some v=>exact h v (List.mem_of_getElem? hx)
theorem Fu {xs:List Int} {o l:Nat} (h:o+l<xs.length):nv (seg xs o (l+1))=nv (seg xs o l)+pw l*xs.getD (o+l) 0:=by
 rw [Kn h,Ld,Fh (by omega)]
 simp [nv]
theorem Fw {need:Bool} {x y:X} {S U:St} (h:(LT.got need x S).at=some (y,U)):need=true∧x=y∧S=U:=by
 cases need with
 |false=>cases h
 | true=>
  simp only [LT.at,cond_true,zS,zP] at h
  exact ⟨rfl,h.1,h.2⟩
end Go.Proofs.YtphlckkbihmlnaaGreatDoor.G
end
section
namespace Go.Proofs.YtphlckkbihmlnaaGreatDoor.G
open Go Go.Proofs RX
section
variable {N:Nat→Prop} {xe:X} {Se:St} (o l c:Nat) (xs:List Int) (ty:TypeId) (nx:Nat)
abbrev trim.st:St:=⟨gbuild [(0,.slice (some ⟨0,o,none⟩) l c)] 0 21,[(0,.is .u32 xs ty)],nx⟩
abbrev trim.lk:=RX.lk [0] [0]
theorem trim.rnd:rd Tryz.prog ⟨[],[],[]⟩ [] 3 (Ag Tryz.f134 0) (trim.st o l c xs ty nx) 21 [0] [0]=
 bif decide (((l:Nat):Int)>0) then bif decide (0≤i64.wrap (((l:Nat):Int)-1))&&decide (i64.wrap (((l:Nat):Int)-1)<((l:Nat):Int)) then bif (o+(i64.wrap (((l:Nat):Int)-1)).toNat*1).blt xs.length then bif xs.getD (o+(i64.wrap (((l:Nat):Int)-1)).toNat*1) 0==0 then bif decide (0≤i64.wrap (((l:Nat):Int)-1))&&decide (i64.wrap (((l:Nat):Int)-1)≤((c:Nat):Int))&&true then trim.lk .normal (trim.st o ((i64.wrap (((l:Nat):Int)-1)).toNat-0) (c-0) xs ty nx) else none else trim.lk (.exit 0) (trim.st o l c xs ty nx) else none else none else trim.lk (.exit 0) (trim.st o l c xs ty nx):=by kernel_rfl
def trim.step0:=fun h0 h1 h2 h3 h4 (ih:Lq Tryz.prog N (Ag Tryz.f134 0) _ xe Se)=>Lq.toK (f:=3) ⟨Ac,Ai,Ad,Ah⟩ Be ((((((trim.rnd o l c xs ty nx).ct h0).ct h1).ct h2).ct h3).ct h4) rfl rfl ih
def trim.stop1:=fun h0 h1 h2 h3=>Lq.endK (N:=N) (f:=3) ⟨Ac,Ai,Ad,Ah⟩ Be (((((trim.rnd o l c xs ty nx).ct h0).ct h1).ct h2).cf h3) (fun q=>by cases q) rfl rfl
def trim.stop2:=fun h0=>Lq.endK (N:=N) (f:=3) ⟨Ac,Ai,Ad,Ah⟩ Be ((trim.rnd o l c xs ty nx).cf h0) (fun q=>by cases q) rfl rfl
end
def trim.ok (o l c:Nat) (xs:List Int):Bool:=Nat.ble (o+l) xs.length&&(Nat.ble l c&&Nat.ble c 1152921504606846976)
def trim.lt (o l c:Nat) (xs:List Int) (ty:TypeId) (nx:Nat):LT:= .got (trim.ok o l c xs) (.exit 0) (trim.st o (tl (seg xs o l)) c xs ty nx)
theorem NV {l:Nat} (h:l<4611686018427387904):i64.wrap ((((l+1:Nat):Nat):Int)-1)=(l:Int):=by rw [w64 (by omega) (by omega)]; omega
theorem dtrue {p:Prop} [Decidable p] (h:p):decide p=true:=decide_eq_true h
theorem dtrue2 {p q:Prop} [Decidable p] [Decidable q] (h:p) (h':q):(decide p&&decide q)=true:=by simp [h,h']
theorem dfalse {p:Prop} [Decidable p] (h:¬p):decide p=false:=decide_eq_false h
theorem Fi {a b:Nat} (h:a<b):a.blt b=true:=by simpa [Nat.blt_eq] using h
theorem trim.go {N:Nat→Prop} (o c:Nat) (xs:List Int) (ty:TypeId) (nx:Nat):∀(l:Nat),o+l≤xs.length→l≤c→c≤1152921504606846976→Lq Tryz.prog N (Ag Tryz.f134 0) (trim.st o l c xs ty nx) (.exit 0) (trim.st o (tl (seg xs o l)) c xs ty nx)
 | 0,_,_,_=>by
  rw [Gw]
  exact trim.stop2 _ _ _ _ _ _ rfl
 | l +1,h1,h2,h3=>by
  have e1:=NV (l:=l) (by omega)
  have c0:(decide ((((l+1:Nat):Nat):Int)>0))=true:=dtrue (by omega)
  have c1:(decide (0≤i64.wrap ((((l+1:Nat):Nat):Int)-1))&&decide (i64.wrap ((((l+1:Nat):Nat):Int)-1)<(((l+1:Nat):Nat):Int)))=true:=by rw [e1]; exact dtrue2 (by omega) (by omega)
  have c2:(o+(i64.wrap ((((l+1:Nat):Nat):Int)-1)).toNat*1).blt xs.length=true:=by rw [e1]; exact Fi (by simp; omega)
  have e2:o+(i64.wrap ((((l+1:Nat):Nat):Int)-1)).toNat*1=o+l:=by rw [e1]; simp
  by_cases hx:xs.getD (o+l) 0=0
  ·refine trim.step0 _ _ _ _ _ _ c0 c1 c2 (by rw [e2,hx]; rfl) (by rw [e1]; simp only [Bool.and_true]; exact dtrue2 (by omega) (by omega)) ?_
   rw [e1,Kn (by omega),hx,JZ]
   exact trim.go o c xs ty nx l (by omega) (by omega) h3
  ·rw [Kn (by omega),Pk _ hx,Fh (by omega)]
   exact trim.stop1 _ _ _ _ _ _ c0 c1 c2 (by rw [e2]; exact Fa hx)
theorem trim.lp {N:Nat→Prop} (o l c:Nat) (xs:List Int) (ty:TypeId) (nx:Nat) {x:X} {S':St} (h:(trim.lt o l c xs ty nx).at=some (x,S')):Lq Tryz.prog N (Ag Tryz.f134 0) (trim.st o l c xs ty nx) x S':=by
 obtain ⟨h1,rfl,rfl⟩:=Fw h
 simp only [trim.ok,zB,Nat.ble_eq] at h1
 exact trim.go o c xs ty nx l h1.1 h1.2.1 h1.2.2
def trim.t:LSpec:=fun S=>match RX.nth S.tmps 0,RX.look S.heap 0 with
 | .slice (some ⟨0,o,none⟩) l c,some (.is .u32 xs ty)=>bif Nat.beq S.tmps.length 21 then some (trim.lt o l c xs ty S.nxt) else none
 |_,_=>none
theorem trim.lok {N:Nat→Prop} :LOKn Tryz.prog N (Ag Tryz.f134 0) (trim.t):=by
 refine Ge fun S lt x S' ht hat=> ?_
 unfold trim.t at ht
 split at ht
 ·rename_i o l c xs ty h0 g0
  cases hb:Nat.beq S.tmps.length 21 with
  |false=>rw [hb] at ht; cases ht
  | true=>
   rw [hb] at ht
   injection ht with ht
   subst ht
   have hb:=zE hb
   exact .enter (fun h=>Gr hb (.cons ⟨h0,bnth h h0⟩ .nil) (.cons ⟨g0,bname h g0,rfl⟩ .nil)) (trim.lp _ _ _ _ _ _ hat)
 ·cases ht
def Et.sp:HSpec
 |[.slice (some ⟨0,o,none⟩) l c],[.is .u32 xs ty]=>some (trim.ok o l c xs,.slice (some ⟨0,o,none⟩) (tl (seg xs o l)) c,[.is .u32 xs ty])
 |_,_=>none
theorem Et.run (o l c:Nat) (xs:List Int) (ty:TypeId):xfnN Tryz.prog ⟨[],[],[]⟩ [(0,trim.t)] 10 Tryz.f134 [.slice (some ⟨0,o,none⟩) l c] [.is .u32 xs ty] []=bif trim.ok o l c xs then some (ren (rho 1 []) (.slice (some ⟨0,o,none⟩) (tl (seg xs o l)) c),[.is .u32 xs ty]) else none:=by kernel_rfl
theorem Et.ok:SOK Tryz.prog 134 Et.sp:=by
 refine Hg (E:=⟨[],[],[]⟩) (L:=[(0,trim.t)]) ⟨Ac,Ai,Ad,Ah⟩ 10 Tryz.func134 (by decide) rfl (Ga rfl rfl trim.lok) fun vs bl v bl' h=> ?_
 unfold Et.sp at h
 split at h
 ·simp only [zS,zP] at h
  obtain ⟨h1,rfl,rfl⟩:=h
  exact ⟨[],(Et.run _ _ _ _ _).trans (ct h1),by simp [okV,Nat.blt],rfl,Ay rfl,List.nodup_nil,by simp⟩
 ·cases h
end Go.Proofs.YtphlckkbihmlnaaGreatDoor.G
end
section
namespace Go.Proofs.YtphlckkbihmlnaaGreatDoor.G
open Go RX
def p8 (k:Nat):Int:=((256^k:Nat):Int)
theorem Jz:p8 0=1:=rfl
theorem Ih (k:Nat):p8 (k+1)=256*p8 k:=by simp only [p8,Nat.pow_succ,Int.natCast_mul]; rw [Int.mul_comm]; rfl
theorem Hk (k:Nat):0<p8 k:=by
 have:=Nat.pow_pos (n:=k) (show 0<256 by decide)
 simp only [p8]; omega
theorem LZ (a b:Nat):p8 (a+b)=p8 a*p8 b:=by simp only [p8,Nat.pow_add,Int.natCast_mul]
theorem MK (k:Nat):p8 (4*k)=pw k:=by simp only [p8,pw,Nat.pow_mul]
def ub (v:Int):UInt8:=UInt8.ofNat (v%256).toNat
theorem MW (v:Int):((ub v).toNat:Int)=v%256:=by
 have h1:=Int.emod_nonneg v (show (256:Int)≠0 by decide)
 have h2:=Int.emod_lt_of_pos v (show (0:Int)<256 by decide)
 unfold ub
 rw [UInt8.toNat_ofNat',Nat.mod_eq_of_lt (by omega)]
 omega
def be:Nat→Int→List UInt8
 |0,_=>[]
 |k+1,v=>be k (v/256)++[ub v]
def lv:List UInt8→Int
 |[]=>0
 |b::r=>(b.toNat:Int)+256*lv r
def bv (l:List UInt8):Int:=lv l.reverse
theorem I7:∀(k:Nat) (v:Int),(be k v).length=k
 |0,v=>rfl
 |k+1,v=>by simp [be,I7 k]
theorem K4:∀(l:List UInt8),0≤lv l
 |[]=>by simp [lv]
 |b::r=>by have:=K4 r; simp only [lv]; omega
theorem Fd (l:List UInt8):0≤bv l:=K4 _
theorem RB:∀(l:List UInt8),lv l<p8 l.length
 |[]=>by simp [lv,Jz]
 | b::r=>by
  have h1:=RB r
  have h2:b.toNat<256:=b.toNat_lt
  simp only [lv,List.length_cons,Ih]
  omega
theorem Jp (l:List UInt8):bv l<p8 l.length:=by have:=RB l.reverse; rwa [List.length_reverse] at this
theorem Ob (l:List UInt8) (b:UInt8):bv (l++[b])=256*bv l+b.toNat:=by simp [bv,lv]; omega
theorem Tb:∀(k:Nat) (v:Int),0≤v→v<p8 k→bv (be k v)=v
 |0,v,h,h'=>by rw [Jz] at h'; simp only [be,bv,List.reverse_nil,lv]; omega
 | k+1,v,h,h'=>by
  rw [Ih] at h'
  simp only [be]
  rw [Ob,Tb k _ (by omega) (by omega),MW]
  omega
theorem Oe:∀(b:UInt8) (l:List UInt8),bv (b::l)=b.toNat*p8 l.length+bv l:=by
 have key:∀(l:List UInt8) (b:UInt8),lv (l++[b])=lv l+p8 l.length*b.toNat:=by
  intro l b
  induction l with
  |nil=>simp [lv,Jz]
  | cons x r ih=>
   simp only [List.cons_append,lv,ih,List.length_cons,Ih,Int.mul_add,Int.mul_assoc]
   omega
 intro b l
 simp only [bv,List.reverse_cons]
 rw [key,List.length_reverse,Int.mul_comm]
 omega
theorem be_bv:∀(l:List UInt8),be l.length (bv l)=l:=by
 intro l
 have key:∀(m:List UInt8),be m.length (lv m)=m.reverse:=by
  intro m
  induction m with
  |nil=>rfl
  | cons b r ih=>
   have h2:b.toNat<256:=b.toNat_lt
   have e1:((b.toNat:Int)+256*lv r)/256=lv r:=by omega
   have e2:ub ((b.toNat:Int)+256*lv r)=b:=by
    apply UInt8.toNat_inj.1
    have:=MW ((b.toNat:Int)+256*lv r)
    omega
   simp only [List.length_cons,be,lv,e1,e2,ih,List.reverse_cons]
 have:=key l.reverse
 rwa [List.length_reverse,List.reverse_reverse] at this
def tz:List UInt8→List UInt8
 |[]=>[]
 |b::r=>bif b.toNat==0 then tz r else b::r
theorem bv_tz:∀(l:List UInt8),bv (tz l)=bv l
 |[]=>rfl
 | b ::r=>by
  simp only [tz]
  cases hb:b.toNat==0 with
  | true=>
   have:b.toNat=0:=by simpa using hb
   rw [cond_true,bv_tz r,Oe,this]; simp
  |false=>rfl
theorem Pi (k:Nat) (v:Int) (h0:0≤v) (h:v<p8 k):tz (be (k+1) v)=tz (be k v):=by
 have e:be (k+1) v=0::be k v:=by
  have h1:=be_bv (0::be k v)
  have h2:bv (0::be k v)=v:=by rw [Oe,Tb k v h0 h]; simp
  rw [h2,List.length_cons,I7] at h1
  exact h1
 rw [e]; rfl
theorem HA {j k:Nat} (h:j≤k):p8 j≤p8 k:=by
 have:=Nat.pow_le_pow_right (show 0<256 by decide) h
 simp only [p8]; omega
theorem tz_be {k j:Nat} {v:Int} (h0:0≤v) (h:v<p8 j) (hjk:j≤k):tz (be k v)=tz (be j v):=by
 obtain ⟨d,rfl⟩:=Nat.exists_eq_add_of_le hjk
 clear hjk
 induction d with
 |zero=>rfl
 |succ d ih=>rw [←ih,←Nat.add_assoc]; exact Pi _ v h0 (Int.lt_of_lt_of_le h (HA (by omega)))
def bl (v:Int):Nat:=v.toNat.log2/8+1
theorem lt_bl {v:Int} (h:0≤v):v<p8 (bl v):=by
 obtain ⟨n,rfl⟩:=Int.eq_ofNat_of_zero_le h
 have e:p8 (bl (n:Int))=((256^(n.log2/8+1):Nat):Int):=rfl
 rw [e]
 have h1:n<2^(n.log2+1):=Nat.lt_log2_self
 have h2:2^(n.log2+1)≤256^(n.log2/8+1):=by
  rw [show (256:Nat)=2^8 from rfl,←Nat.pow_mul]
  exact Nat.pow_le_pow_right (by decide) (by omega)
 exact_mod_cast Nat.lt_of_lt_of_le h1 h2
def enc (v:Int):List UInt8:=tz (be (bl v) v)
theorem OW {v:Int} {k:Nat} (h:0≤v) (hk:v<p8 k):tz (be k v)=enc v:=by
 unfold enc
 rcases Nat.le_total k (bl v) with h1|h1
 ·exact (tz_be h hk h1).symm
 ·exact tz_be h (lt_bl h) h1
theorem QK {v:Int} (h:0≤v):bv (enc v)=v:=by rw [enc,bv_tz,Tb _ v h (lt_bl h)]
theorem JL {l:List UInt8} (h:tz l=l):enc (bv l)=l:=by
 rw [←OW (Fd l) (Jp l),be_bv,h]
theorem tz_tz:∀(l:List UInt8),tz (tz l)=tz l
 |[]=>rfl
 | b::r=>by
  simp only [tz]
  cases hb:b.toNat==0 with
  |true=>rw [cond_true,tz_tz r]
  |false=>rw [cond_false,tz,hb]; rfl
theorem tz_enc (v:Int):tz (enc v)=enc v:=tz_tz _
theorem RI {v:Int} (h:0≤v):enc v=[]↔v=0:=by
 constructor
 ·intro e
  have:=QK h
  rw [e] at this
  simpa [bv,lv] using this.symm
 ·rintro rfl; rfl
theorem LP:∀(l:List UInt8),(tz l).length≤l.length
 |[]=>Nat.le_refl _
 | b::r=>by
  simp only [tz]
  cases b.toNat==0 with
  |true=>exact Nat.le_succ_of_le (LP r)
  |false=>exact Nat.le_refl _
theorem NI {v:Int} {k:Nat} (h:0≤v) (hk:v<p8 k):(enc v).length≤k:=by
 rw [←OW h hk]
 exact Nat.le_trans (LP _) (by rw [I7]; exact Nat.le_refl _)
theorem ub_mod {v w:Int} (h:v%256=w%256):ub v=ub w:=by unfold ub; rw [h]
theorem Ti:∀(b:Nat) (w x:Int),be b (w+p8 b*x)=be b w
 |0,w,x=>rfl
 | b+1,w,x=>by
  have e1:(w+256*p8 b*x)/256=w/256+p8 b*x:=by rw [Int.mul_assoc]; omega
  have e2:ub (w+256*p8 b*x)=ub w:=ub_mod (by rw [Int.mul_assoc]; omega)
  simp only [be,Ih,e1,e2,Ti b]
theorem QP (a:Nat):∀(b:Nat) (v:Int),be (a+b) v=be a (v/p8 b)++be b v
 |0,v=>by simp [be,Jz]
 | b+1,v=>by
  rw [←Nat.add_assoc]
  simp only [be,QP a b,Ih,List.append_assoc]
  rw [Int.ediv_ediv,if_neg (by omega),Int.sub_zero]
def tb (n:Int):UInt8:=UInt8.ofNat n.toNat
theorem tb_wrap (n:Int):tb (IntKind.u8.wrap n)=ub n:=by rw [wu8]; rfl
theorem Pw (r:Nat):p8 r=((2^(8*r):Nat):Int):=by simp only [p8,Nat.pow_mul]
theorem NB:∀(q n:Nat) (v:Int) (r:Nat),0≤v→v<p8 (4*q+r)→r≤4→(dg n v).getD q 0<p8 r
 |q,0,v,r,_,_,_=>by have:=Hk r; simpa [dg] using this
 | 0,n+1,v,r,h0,h,_=>by
  rw [Nat.mul_zero,Nat.zero_add] at h
  simp only [dg,List.getD_cons_zero]
  omega
 | q+1,n+1,v,r,h0,h,hr=>by
  rw [show 4*(q+1)+r=4+(4*q+r) from by omega,LZ] at h
  have h4:p8 4=4294967296:=by decide
  rw [h4] at h
  simp only [dg,List.getD_cons_succ]
  exact NB q n _ r (by omega) (by omega) hr
theorem SQ:∀(q n:Nat) (v:Int) (r:Nat) (b:Int),q<n→r<4→0≤v→v<p8 (4*q+r)→0≤b→b<256→dg n (v+p8 (4*q+r)*b)=(dg n v).set q ((dg n v).getD q 0+b*p8 r)
 |q,0,v,r,b,h,_,_,_,_,_=>by omega
 | 0,n+1,v,r,b,_,hr,h0,h,hb,hb'=>by
  rw [Nat.mul_zero,Nat.zero_add] at h ⊢
  have hp:=Hk r
  have h3:p8 r*b≤p8 r*255:=Int.mul_le_mul_of_nonneg_left (by omega) (by omega)
  have h5:0≤p8 r*b:=Int.mul_nonneg (by omega) hb
  have h4:p8 r≤16777216:=Int.le_trans (HA (show r≤3 by omega)) (by decide)
  have e1:(v+p8 r*b)%4294967296=v+p8 r*b:=Int.emod_eq_of_lt (by omega) (by omega)
  have e2:(v+p8 r*b)/4294967296=0:=Int.ediv_eq_zero_of_lt (by omega) (by omega)
  have e3:v%4294967296=v:=Int.emod_eq_of_lt h0 (by omega)
  have e4:v/4294967296=0:=Int.ediv_eq_zero_of_lt h0 (by omega)
  simp only [dg,e1,e2,e3,e4,List.set_cons_zero,List.getD_cons_zero,Int.mul_comm b]
 | q +1,n+1,v,r,b,hq,hr,h0,h,hb,hb'=>by
  have e:p8 (4*(q+1)+r)=4294967296*p8 (4*q+r):=by
   rw [show 4*(q+1)+r=4+(4*q+r) from by omega,LZ]; rfl
  rw [e] at h ⊢
  have e1:(v+4294967296*p8 (4*q+r)*b)%4294967296=v%4294967296:=by rw [Int.mul_assoc]; omega
  have e2:(v+4294967296*p8 (4*q+r)*b)/4294967296=v/4294967296+p8 (4*q+r)*b:=by rw [Int.mul_assoc]; omega
  simp only [dg,e1,e2,List.set_cons_succ,List.getD_cons_succ]
  rw [SQ q n (v/4294967296) r b (by omega) hr (by omega) (by omega) hb hb']
theorem OK:∀(l:List UInt8) (b:UInt8),lv (l++[b])=lv l+p8 l.length*b.toNat
 |[],b=>by simp [lv,Jz]
 | x::r,b=>by
  simp only [List.cons_append,lv,OK r b,List.length_cons,Ih,Int.mul_add,Int.mul_assoc]
  omega
end Go.Proofs.YtphlckkbihmlnaaGreatDoor.G
end
section
namespace Go.Proofs.YtphlckkbihmlnaaGreatDoor.G
open Go Go.Proofs RX
section
variable {N:Nat→Prop} {xe:X} {Se:St} (s:ByteArray) (c:Int) (nx:Nat)
abbrev tlb.st:St:=⟨gbuild [(0,.string s),(1,.int .u8 c)] 0 17,[],nx⟩
abbrev tlb.lk:=RX.lk [0,1] []
theorem tlb.rnd:rd Tryz.prog ⟨[],[],[]⟩ [] 3 (Ag Tryz.f148 0) (tlb.st s c nx) 17 [0,1] []=
 bif decide (((s.size:Nat):Int)>0) then bif decide (0≤0)&&decide (0<((s.size:Nat):Int)) then bif (((s.data.toList.getD (Int.toNat 0) 0).toNat:Nat):Int)==c then bif true&&(decide (0≤1)&&decide (1≤((s.size:Nat):Int))) then tlb.lk .normal (tlb.st (subL s.data.toList (Int.toNat 1) s.size) c nx) else none else tlb.lk (.exit 0) (tlb.st s c nx) else none else tlb.lk (.exit 0) (tlb.st s c nx):=by kernel_rfl
def tlb.step0:=fun h0 h1 h2 h3 (ih:Lq Tryz.prog N (Ag Tryz.f148 0) _ xe Se)=>Lq.toK (f:=3) ⟨Ac,Ai,Ad,Ah⟩ Be (((((tlb.rnd s c nx).ct h0).ct h1).ct h2).ct h3) rfl rfl ih
def tlb.stop1:=fun h0 h1 h2=>Lq.endK (N:=N) (f:=3) ⟨Ac,Ai,Ad,Ah⟩ Be ((((tlb.rnd s c nx).ct h0).ct h1).cf h2) (fun q=>by cases q) rfl rfl
def tlb.stop2:=fun h0=>Lq.endK (N:=N) (f:=3) ⟨Ac,Ai,Ad,Ah⟩ Be ((tlb.rnd s c nx).cf h0) (fun q=>by cases q) rfl rfl
end
def tc (c:Int):List UInt8→List UInt8
 |[]=>[]
 |b::r=>bif ((b.toNat:Nat):Int)==c then tc c r else b::r
theorem QY:∀(l:List UInt8),tc 0 l=tz l
 |[]=>rfl
 | b ::r=>by
  simp only [tc,tz,QY r]
  have:(((b.toNat:Nat):Int)==0)=(b.toNat==0):=by
   cases h:b.toNat==0 with
   |true=>simpa using h
   |false=>simp at h ⊢; exact h
  rw [this]
def str (l:List UInt8):ByteArray:=⟨⟨l⟩⟩
def tlb.lt (s:ByteArray) (c:Int) (nx:Nat):LT:= .got (Nat.ble s.size 1152921504606846976) (.exit 0) (tlb.st (str (tc c s.data.toList)) c nx)
theorem Kh (l:List UInt8):(str l).size=l.length:=rfl
theorem tlb.go {N:Nat→Prop} (c:Int) (nx:Nat):∀(l:List UInt8),l.length≤1152921504606846976→Lq Tryz.prog N (Ag Tryz.f148 0) (tlb.st (str l) c nx) (.exit 0) (tlb.st (str (tc c l)) c nx)
 |[],_=>tlb.stop2 _ _ _ rfl
 | b ::r,h=>by
  have c0:(decide ((((str (b::r)).size:Nat):Int)>0))=true:=dtrue (by rw [Kh,List.length_cons]; omega)
  have c1:(decide (0≤0)&&decide (0<(((str (b::r)).size:Nat):Int)))=true:=dtrue2 (by omega) (by rw [Kh,List.length_cons]; omega)
  have hg:((str (b::r)).data.toList.getD (Int.toNat 0) 0)=b:=rfl
  simp only [List.length_cons] at h
  cases hb:((b.toNat:Nat):Int)==c with
  | true=>
   refine tlb.step0 _ _ _ c0 c1 (by rw [hg]; exact hb) (by simp only [Bool.true_and]; exact dtrue2 (by omega) (by rw [Kh,List.length_cons]; omega)) ?_
   have e:subL (str (b::r)).data.toList (Int.toNat 1) (str (b::r)).size=str r:=by
    show (⟨⟨((b::r).drop 1).take ((b::r).length-1)⟩⟩:ByteArray)=⟨⟨r⟩⟩
    simp
   rw [e]
   simp only [tc,hb,cond_true]
   exact tlb.go c nx r (by omega)
  | false=>
   simp only [tc,hb,cond_false]
   exact tlb.stop1 _ _ _ c0 c1 (by rw [hg]; exact hb)
theorem tlb.lp {N:Nat→Prop} (s:ByteArray) (c:Int) (nx:Nat) {x:X} {S':St} (h:(tlb.lt s c nx).at=some (x,S')):Lq Tryz.prog N (Ag Tryz.f148 0) (tlb.st s c nx) x S':=by
 obtain ⟨h1,rfl,rfl⟩:=Fw h
 exact tlb.go c nx s.data.toList (zL h1)
def tlb.t:LSpec:=fun S=>match RX.nth S.tmps 0,RX.nth S.tmps 1 with
 | .string s,.int .u8 c=>bif Nat.beq S.tmps.length 17 then some (tlb.lt s c S.nxt) else none
 |_,_=>none
theorem tlb.lok {N:Nat→Prop} :LOKn Tryz.prog N (Ag Tryz.f148 0) (tlb.t):=by
 refine Ge fun S lt x S' ht hat=> ?_
 unfold tlb.t at ht
 split at ht
 ·rename_i s c h0 h1
  cases hb:Nat.beq S.tmps.length 17 with
  |false=>rw [hb] at ht; cases ht
  | true=>
   rw [hb] at ht
   injection ht with ht
   subst ht
   have hb:=zE hb
   exact .enter (fun h=>Gr hb (.cons ⟨h0,bnth h h0⟩ (.cons ⟨h1,bnth h h1⟩ .nil)) .nil) (tlb.lp _ _ _ hat)
 ·cases ht
def Gu.sp:HSpec
 |[.string s,.int .u8 c],[]=>some (Nat.ble s.size 1152921504606846976,.string (str (tc c s.data.toList)),[])
 |_,_=>none
theorem Gu.run (s:ByteArray) (c:Int):xfn Tryz.prog ⟨[],[],[]⟩ [(0,tlb.t)] 10 Tryz.f148 [.string s,.int .u8 c] []=bif Nat.ble s.size 1152921504606846976 then some (.string (str (tc c s.data.toList)),[]) else none:=by kernel_rfl
theorem Gu.ok:SOK Tryz.prog 148 Gu.sp:=by
 refine Cu (E:=⟨[],[],[]⟩) (L:=[(0,tlb.t)]) ⟨Ac,Ai,Ad,Ah⟩ 10 Tryz.func148 (by decide) rfl (Ga rfl rfl tlb.lok) fun vs bl v bl' h=> ?_
 unfold Gu.sp at h
 split at h
 ·simp only [zS,zP] at h
  obtain ⟨h1,rfl,rfl⟩:=h
  exact ⟨(Gu.run _ _).trans (ct h1),by simp [okV],clo_spec 8 _ rfl,Ay rfl⟩
 ·cases h
theorem RP {a b:ByteArray} (h:(a==b)=true):a=b:=by
 obtain ⟨a⟩:=a
 obtain ⟨b⟩:=b
 have:(a==b)=true:=h
 rw [eq_of_beq this]
def TrimZ.sp:HSpec
 |[.string s,.string ⟨⟨[0]⟩⟩],[]=>some (Nat.ble s.size 1152921504606846976,.string (str (tz s.data.toList)),[])
 |_,_=>none
theorem TrimZ.run (s:ByteArray):xfn Tryz.prog ⟨[(148,Gu.sp)],[],[]⟩ [] 10 Tryz.f144 [.string s,.string ⟨⟨[0]⟩⟩] []=bif s.toList==(⟨#[]⟩:ByteArray).toList then some (.string s,[]) else bif Nat.ble s.size 1152921504606846976 then some (.string (str (tc 0 s.data.toList)),[]) else none:=by kernel_rfl
theorem TrimZ.ok:SOK Tryz.prog 144 TrimZ.sp:=by
 refine Cu (E:=⟨[(148,Gu.sp)],[],[]⟩) (L:=[]) ⟨Aa Gu.ok Ac,Ai,Ad,Ah⟩ 10 Tryz.func144 (by decide) rfl Bv fun vs bl v bl' h=> ?_
 unfold TrimZ.sp at h
 split at h
 ·rename_i s
  simp only [zS,zP] at h
  obtain ⟨h1,rfl,rfl⟩:=h
  refine ⟨(TrimZ.run s).trans ?_,by simp [okV],clo_spec 8 _ rfl,Ay rfl⟩
  cases hs:s.toList==(⟨#[]⟩:ByteArray).toList with
  | true=>
   have h0:(s==(⟨#[]⟩:ByteArray))=true:=(JR s ⟨#[]⟩).trans hs
   have:s=⟨#[]⟩:=RP h0
   subst this
   rfl
  |false=>rw [cond_false,ct h1,QY]
 ·cases h
section
variable {N:Nat→Prop} {xe:X} {Se:St} (oa la ca l c:Nat) (i:Int) (xs:List Int) (ta:TypeId) (out:List Int) (tc:TypeId)
abbrev mag.st:St:=⟨gbuild [(0,.slice (some ⟨0,oa,none⟩) la ca),(3,.slice (some ⟨65,0,none⟩) l c),(4,.int .i64 i)] 0 45,[(0,.is .u32 xs ta),(65,.is .u8 out tc)],161⟩
abbrev mag.lk:=RX.lk [0,3,4] [0,65]
theorem mag.rnd:rd Tryz.prog ⟨[],[],[]⟩ [] 3 (Ag Tryz.f135 0) (mag.st oa la ca l c i xs ta out tc) 45 [0,3,4] [0,65]=
 bif decide (i≥0) then bif decide (0≤i)&&decide (i<((la:Nat):Int)) then bif (oa+i.toNat*1).blt xs.length then bif decide (0≤i)&&decide (i<((la:Nat):Int)) then bif (oa+i.toNat*1).blt xs.length then bif decide (0≤i)&&decide (i<((la:Nat):Int)) then bif (oa+i.toNat*1).blt xs.length then bif decide (0≤i)&&decide (i<((la:Nat):Int)) then bif (oa+i.toNat*1).blt xs.length then bif (l+4).ble c&&((1).beq 1&&(0+l+[IntKind.u8.wrap ((xs.getD (oa+i.toNat*1) 0).fdiv (2^min (Int.toNat 24) u32.bits)),IntKind.u8.wrap ((xs.getD (oa+i.toNat*1) 0).fdiv (2^min (Int.toNat 16) u32.bits)),IntKind.u8.wrap ((xs.getD (oa+i.toNat*1) 0).fdiv (2^min (Int.toNat 8) u32.bits)),IntKind.u8.wrap (xs.getD (oa+i.toNat*1) 0)].length).ble out.length) then mag.lk .normal (mag.st oa la ca (l+4) c (i64.wrap (i-1)) xs ta (wr out (0+l) [IntKind.u8.wrap ((xs.getD (oa+i.toNat*1) 0).fdiv (2^min (Int.toNat 24) u32.bits)),IntKind.u8.wrap ((xs.getD (oa+i.toNat*1) 0).fdiv (2^min (Int.toNat 16) u32.bits)),IntKind.u8.wrap ((xs.getD (oa+i.toNat*1) 0).fdiv (2^min (Int.toNat 8) u32.bits)),IntKind.u8.wrap (xs.getD (oa+i.toNat*1) 0)]) tc) else none else none else none else none else none else none else none else none else none else mag.lk (.exit 0) (mag.st oa la ca l c i xs ta out tc):=by kernel_rfl
def mag.step0:=fun h0 h1 h2 h3 h4 h5 h6 h7 h8 h9 (ih:Lq Tryz.prog N (Ag Tryz.f135 0) _ xe Se)=>Lq.to (f:=3) ⟨Ac,Ai,Ad,Ah⟩ Be (((((((((((mag.rnd oa la ca l c i xs ta out tc).ct h0).ct h1).ct h2).ct h3).ct h4).ct h5).ct h6).ct h7).ct h8).ct h9) rfl ih
def mag.stop1:=fun h0=>Lq.end (N:=N) (f:=3) ⟨Ac,Ai,Ad,Ah⟩ Be ((mag.rnd oa la ca l c i xs ta out tc).cf h0) (fun q=>by cases q) rfl
end
def b4 (x:Int):List Int:=[IntKind.u8.wrap (x.fdiv (2^min (Int.toNat 24) u32.bits)),IntKind.u8.wrap (x.fdiv (2^min (Int.toNat 16) u32.bits)),IntKind.u8.wrap (x.fdiv (2^min (Int.toNat 8) u32.bits)),IntKind.u8.wrap x]
def mb (xs:List Int) (o l:Nat):Nat→List Int→List Int
 |0,out=>out
 |k+1,out=>mb xs o (l+4) k (wr out (0+l) (b4 (xs.getD (o+k) 0)))
def mag.ok (oa la l c:Nat) (i:Int) (xs out:List Int):Bool:=decide (i+1=(la:Int))&&(Nat.beq l 0&&(Nat.beq c (4*la)&&(Nat.beq out.length (4*la)&&(Nat.ble (oa+la) xs.length&&Nat.ble la 1152921504606846976))))
def mag.lt (oa la ca l c:Nat) (i:Int) (xs:List Int) (ta:TypeId) (out:List Int) (tc:TypeId):LT:= .got (mag.ok oa la l c i xs out) (.exit 0) (mag.st oa la ca (4*la) c (-1) xs ta (mb xs oa 0 la out) tc)
theorem mag.go {N:Nat→Prop} (oa la ca c:Nat) (xs:List Int) (ta tc:TypeId) (h1:oa+la≤xs.length) (h2:c=4*la) (h3:la≤1152921504606846976):∀(k l:Nat) (out:List Int),k≤la→l+4*k=4*la→out.length=4*la→Lq Tryz.prog N (Ag Tryz.f135 0) (mag.st oa la ca l c ((k:Int)-1) xs ta out tc) (.exit 0) (mag.st oa la ca (4*la) c (-1) xs ta (mb xs oa l k out) tc)
 | 0,l,out,_,h5,_=>by
  have:l=4*la:=by omega
  subst this
  exact mag.stop1 oa la ca (4*la) c _ xs ta out tc rfl
 | k +1,l,out,h4,h5,h6=>by
  have e0:(((k+1:Nat):Int)-1)=(k:Int):=by omega
  rw [e0]
  have c1:(decide (0≤(k:Int))&&decide ((k:Int)<((la:Nat):Int)))=true:=dtrue2 (by omega) (by omega)
  have c2:(oa+((k:Int)).toNat*1).blt xs.length=true:=Fi (by simp; omega)
  refine mag.step0 oa la ca l c _ xs ta out tc (dtrue (by omega)) c1 c2 c1 c2 c1 c2 c1 c2 ?_ ?_
  ·simp only [List.length_cons,List.length_nil,zB,Nat.ble_eq]
   exact ⟨by omega,rfl,by omega⟩
  ·have e1:i64.wrap ((k:Int)-1)=(k:Int)-1:=w64 (by omega) (by omega)
   have e2:oa+((k:Int)).toNat*1=oa+k:=by simp
   rw [e1,e2]
   exact mag.go oa la ca c xs ta tc h1 h2 h3 k (l+4) _ (by omega) (by omega) (by rw [Jr]; exact h6)
theorem mag.lp {N:Nat→Prop} (oa la ca l c:Nat) (i:Int) (xs:List Int) (ta:TypeId) (out:List Int) (tc:TypeId) {x:X} {S':St} (h:(mag.lt oa la ca l c i xs ta out tc).at=some (x,S')):Lq Tryz.prog N (Ag Tryz.f135 0) (mag.st oa la ca l c i xs ta out tc) x S':=by
 obtain ⟨h1,rfl,rfl⟩:=Fw h
 simp only [mag.ok,zB,Nat.ble_eq,zD] at h1
 obtain ⟨h1,h2,h3,h4,h5,h6⟩:=h1
 have h2:=zE h2
 have h3:=zE h3
 have h4:=zE h4
 subst h2
 have:i=((la:Nat):Int)-1:=by omega
 subst this
 exact mag.go oa la ca c xs ta tc h5 h3 h6 la 0 out (Nat.le_refl _) (by omega) h4
def mag.t:LSpec:=fun S=>match RX.nth S.tmps 0,RX.nth S.tmps 3,RX.nth S.tmps 4,RX.look S.heap 0,RX.look S.heap 65,S.nxt with
 | .slice (some ⟨0,oa,none⟩) la ca,.slice (some ⟨65,0,none⟩) l c,.int .i64 i,some (.is .u32 xs ta),some (.is .u8 out tc),161=>bif Nat.beq S.tmps.length 45 then some (mag.lt oa la ca l c i xs ta out tc) else none
 |_,_,_,_,_,_=>none
theorem mag.lok {N:Nat→Prop} :LOKn Tryz.prog N (Ag Tryz.f135 0) (mag.t):=by
 refine Ge fun S lt x S' ht hat=> ?_
 unfold mag.t at ht
 split at ht
 ·rename_i oa la ca l c i xs ta out tc h0 h3 h4 g0 g65 hnx
  cases hb:Nat.beq S.tmps.length 45 with
  |false=>rw [hb] at ht; cases ht
  | true=>
   rw [hb] at ht
   injection ht with ht
   subst ht
   have hb:=zE hb
   obtain ⟨T,H,_⟩:=S
   subst hnx
   exact .enter (fun h=>Gr hb (.cons ⟨h0,bnth h h0⟩ (.cons ⟨h3,bnth h h3⟩ (.cons ⟨h4,bnth h h4⟩ .nil))) (.cons ⟨g0,bname h g0,rfl⟩ (.cons ⟨g65,bname h g65,rfl⟩ .nil))) (mag.lp _ _ _ _ _ _ _ _ _ _ hat)
 ·cases ht
theorem b4_be (x:Int):(b4 x).map tb=be 4 x:=by
 have f1:x.fdiv (2^min (Int.toNat 24) u32.bits)=x/256/256/256:=by
  rw [Int.fdiv_eq_ediv_of_nonneg _ (by decide),show ((2:Int)^min (Int.toNat 24) u32.bits)=16777216 from rfl]; omega
 have f2:x.fdiv (2^min (Int.toNat 16) u32.bits)=x/256/256:=by
  rw [Int.fdiv_eq_ediv_of_nonneg _ (by decide),show ((2:Int)^min (Int.toNat 16) u32.bits)=65536 from rfl]; omega
 have f3:x.fdiv (2^min (Int.toNat 8) u32.bits)=x/256:=by
  rw [Int.fdiv_eq_ediv_of_nonneg _ (by decide),show ((2:Int)^min (Int.toNat 8) u32.bits)=256 from rfl]
 simp only [b4,f1,f2,f3,List.map_cons,List.map_nil,tb_wrap,be,List.nil_append,List.cons_append]
theorem QU:∀(vs out:List Int) (l:Nat),l+vs.length≤out.length→(wr out l vs).take (l+vs.length)=out.take l++vs
 |[],out,l,h=>by simp [wr]
 | v::r,out,l,h=>by
  simp only [List.length_cons] at h
  rw [wr,List.length_cons,show l+(r.length+1)=l+1+r.length from by omega,QU r _ (l+1) (by simp; omega),List.take_add_one,List.take_set_of_le (by omega)]
  simp [show l<out.length from by omega]
theorem Np (xs:List Int) (o:Nat):∀(k l:Nat) (out:List Int),(mb xs o l k out).length=out.length
 |0,l,out=>rfl
 |k+1,l,out=>by rw [mb,Np xs o k,Jr]
theorem mb_be {xs:List Int} {o:Nat} (hd:dig xs):∀(k l:Nat) (out:List Int),o+k≤xs.length→out.length=l+4*k→(mb xs o l k out).map tb=(out.take l).map tb++be (4*k) (nv (seg xs o k))
 | 0,l,out,_,h=>by
  simp only [mb,be,List.append_nil]
  rw [List.take_of_length_le (by omega)]
 | k+1,l,out,ho,h=>by
  have h4:(b4 (xs.getD (o+k) 0)).length=4:=rfl
  rw [mb,mb_be hd k (l+4) _ (by omega) (by rw [Jr]; omega),Nat.zero_add]
  have:=QU (b4 (xs.getD (o+k) 0)) out l (by rw [h4]; omega)
  rw [h4] at this
  rw [this,List.map_append,List.append_assoc,b4_be,Fu (by omega)]
  congr 1
  have hw:=Gz (Fg hd o k)
  rw [Fh (by omega),←MK] at hw
  have hw0:=El (Fg hd o k)
  rw [show 4*(k+1)=4+4*k from by omega,QP,←MK,Ti]
  congr 2
  rw [Int.add_mul_ediv_left _ _ (by have:=Hk (4*k); omega),Int.ediv_eq_zero_of_lt hw0 hw]
  omega
def Du (o l:Nat) (xs:List Int):Bool:=Nat.ble (o+l) xs.length&&(Nat.ble l 4294967296&&digB xs)
theorem Eo {o l:Nat} {xs:List Int} :Du o l xs=true↔o+l≤xs.length∧l≤4294967296∧dig xs:=by simp only [Du,zB,Nat.ble_eq,Hw]
def mag.sp:HSpec
 |[.slice (some ⟨0,o,none⟩) l c],[.is .u32 xs ty]=>some (Du o l xs,.string (str (enc (nv (seg xs o l)))),[.is .u32 xs ty])
 |[.slice none 0 0],[]=>some (true,.string (str []),[])
 |_,_=>none
section
variable {N:Nat→Prop} {xe:X} {Se:St} (i:Int) (out:List Int) (tc:TypeId)
abbrev magn.st:St:=⟨gbuild [(0,.slice none 0 0),(3,.slice (some ⟨64,0,none⟩) 0 0),(4,.int .i64 i)] 0 45,[(64,.is .u8 out tc)],160⟩
abbrev magn.lk:=RX.lk [0,3,4] [64]
theorem magn.rnd:rd Tryz.prog ⟨[],[],[]⟩ [] 3 (Ag Tryz.f135 0) (magn.st i out tc) 45 [0,3,4] [64]=
 bif decide (i≥0) then none else magn.lk (.exit 0) (magn.st i out tc):=by kernel_rfl
def magn.stop0:=fun h0=>Lq.end (N:=N) (f:=3) ⟨Ac,Ai,Ad,Ah⟩ Be ((magn.rnd i out tc).cf h0) (fun q=>by cases q) rfl
end
def magn.lt (i:Int) (out:List Int) (tc:TypeId):LT:= .got (decide (i<0)) (.exit 0) (magn.st i out tc)
theorem magn.lp {N:Nat→Prop} (i:Int) (out:List Int) (tc:TypeId) {x:X} {S':St} (h:(magn.lt i out tc).at=some (x,S')):Lq Tryz.prog N (Ag Tryz.f135 0) (magn.st i out tc) x S':=by
 obtain ⟨h1,rfl,rfl⟩:=Fw h
 exact magn.stop0 i out tc (dfalse (by have:=of_decide_eq_true h1; omega))
def magn.t:LSpec:=fun S=>match RX.nth S.tmps 0,RX.nth S.tmps 3,RX.nth S.tmps 4,RX.look S.heap 64,S.nxt with
 | .slice none 0 0,.slice (some ⟨64,0,none⟩) 0 0,.int .i64 i,some (.is .u8 out tc),160=>bif Nat.beq S.tmps.length 45 then some (magn.lt i out tc) else none
 |_,_,_,_,_=>none
theorem magn.lok {N:Nat→Prop} :LOKn Tryz.prog N (Ag Tryz.f135 0) (magn.t):=by
 refine Ge fun S lt x S' ht hat=> ?_
 unfold magn.t at ht
 split at ht
 ·rename_i i out tc h0 h3 h4 g64 hnx
  cases hb:Nat.beq S.tmps.length 45 with
  |false=>rw [hb] at ht; cases ht
  | true=>
   rw [hb] at ht
   injection ht with ht
   subst ht
   have hb:=zE hb
   obtain ⟨T,H,_⟩:=S
   subst hnx
   exact .enter (fun h=>Gr hb (.cons ⟨h0,bnth h h0⟩ (.cons ⟨h3,bnth h h3⟩ (.cons ⟨h4,bnth h h4⟩ .nil))) (.cons ⟨g64,bname h g64,rfl⟩ .nil)) (magn.lp _ _ _ hat)
 ·cases ht
def magL:LSpec:=fun S=>match mag.t S with|some lt=>some lt|none=>magn.t S
theorem mag.run (o l c:Nat) (xs:List Int) (ty:TypeId):xfn Tryz.prog ⟨[(144,TrimZ.sp)],[],[]⟩ [(0,magL)] 10 Tryz.f135 [.slice (some ⟨0,o,none⟩) l c] [.is .u32 xs ty]=
 bif decide ((0:Int)≤0)&&(decide (0≤i64.wrap (4*(l:Int)))&&(decide (i64.wrap (4*(l:Int))≤140737488355328)&&decide (((0+1:Nat):Int)*i64.wrap (4*(l:Int))≤140737488355328))) then bif mag.ok o l (Int.toNat 0) (i64.wrap (4*(l:Int))).toNat (i64.wrap ((l:Int)-1)) xs (List.replicate ((i64.wrap (4*(l:Int))).toNat*(0+1)) 0) then bif (0+4*l).ble (mb xs o 0 l (List.replicate ((i64.wrap (4*(l:Int))).toNat*(0+1)) 0)).length then bif Nat.ble (str (List.map (fun n=>UInt8.ofNat n.toNat) (List.take (4*l) (List.drop 0 (mb xs o 0 l (List.replicate ((i64.wrap (4*(l:Int))).toNat*(0+1)) 0)))))).size 1152921504606846976 then some (.string (str (tz (str (List.map (fun n=>UInt8.ofNat n.toNat) (List.take (4*l) (List.drop 0 (mb xs o 0 l (List.replicate ((i64.wrap (4*(l:Int))).toNat*(0+1)) 0)))))).data.toList)),[.is .u32 xs ty]) else none else none else none else none:=by kernel_rfl
theorem mag.runn:xfn Tryz.prog ⟨[(144,TrimZ.sp)],[],[]⟩ [(0,magL)] 10 Tryz.f135 [.slice none 0 0] []=some (.string (str []),[]):=by kernel_rfl
theorem QN.ok:SOK Tryz.prog 135 mag.sp:=by
 refine Cu (E:=⟨[(144,TrimZ.sp)],[],[]⟩) (L:=[(0,magL)]) ⟨Aa TrimZ.ok Ac,Ai,Ad,Ah⟩ 10 Tryz.func135 (by decide) rfl (Ga rfl rfl (Lk mag.lok magn.lok)) fun vs bl v bl' h=> ?_
 unfold mag.sp at h
 split at h
 ·rename_i o l c xs ty
  simp only [zS,zP] at h
  obtain ⟨h1,rfl,rfl⟩:=h
  obtain ⟨ho,hl,hd⟩:=Eo.1 h1
  have e4:i64.wrap (4*(l:Int))=4*(l:Int):=w64 (by omega) (by omega)
  have t4:(i64.wrap (4*(l:Int))).toNat=4*l:=by rw [e4]; omega
  have e5:i64.wrap ((l:Int)-1)=(l:Int)-1:=w64 (by omega) (by omega)
  have hlen:(mb xs o 0 l (List.replicate ((i64.wrap (4*(l:Int))).toNat*(0+1)) 0)).length=4*l:=by rw [Np,List.length_replicate,t4]; omega
  have hcut:List.take (4*l) (List.drop 0 (mb xs o 0 l (List.replicate ((i64.wrap (4*(l:Int))).toNat*(0+1)) 0)))=mb xs o 0 l (List.replicate ((i64.wrap (4*(l:Int))).toNat*(0+1)) 0):=by
   rw [List.drop_zero,List.take_of_length_le (by omega)]
  have hbe:(mb xs o 0 l (List.replicate ((i64.wrap (4*(l:Int))).toNat*(0+1)) 0)).map (fun n=>UInt8.ofNat n.toNat)=be (4*l) (nv (seg xs o l)):=by
   have:=mb_be hd l 0 (List.replicate ((i64.wrap (4*(l:Int))).toNat*(0+1)) 0) ho (by rw [List.length_replicate,t4]; omega)
   rw [List.take_zero,List.map_nil,List.nil_append] at this
   exact this
  have hw:=Gz (Fg hd o l)
  rw [Fh ho,←MK] at hw
  refine ⟨(mag.run o l c xs ty).trans ?_,by simp [okV,Nat.blt],clo_spec 8 _ rfl,Ay rfl⟩
  rw [ct,ct,ct,ct]
  ·rw [hcut,hbe]
   show some (Value.string (str (tz (be (4*l) (nv (seg xs o l))))),_)=_
   rw [OW (El (Fg hd o l)) hw]
  ·rw [hcut,hbe]
   simp only [Nat.ble_eq]
   show (be (4*l) (nv (seg xs o l))).length≤_
   rw [I7]; omega
  ·simp only [Nat.ble_eq]; omega
  ·simp only [mag.ok,zB,zD,Nat.ble_eq,Nat.beq_eq,e5,t4,List.length_replicate]
   exact ⟨by omega,rfl,trivial,by omega,by omega,by omega⟩
  ·rw [e4]
   simp only [zB,zD]
   omega
 ·simp only [zS,zP,true_and] at h
  obtain ⟨rfl,rfl⟩:=h
  exact ⟨mag.runn,by simp [okV],clo_spec 8 _ rfl,Ay rfl⟩
 ·cases h
def iv (neg:Bool) (v:Int):Value:= .agg ⟨[.bool (neg&& !(v==0)),.string (str (enc v))]⟩
def with.sp:HSpec
 |[.slice (some ⟨0,o,none⟩) l c,.bool b],[.is .u32 xs 144]=>some (Du o l xs,iv b (nv (seg xs o l)),[.is .u32 xs 144])
 |[.slice none 0 0,.bool b],[]=>some (true,iv b 0,[])
 |_,_=>none
theorem with.run (o l c:Nat) (xs:List Int) (b:Bool):xfn Tryz.prog ⟨[(135,mag.sp)],[],[]⟩ [] 10 Tryz.f120 [.slice (some ⟨0,o,none⟩) l c,.bool b] [.is .u32 xs 144]=
 bif Du o l xs then bif b then some (.agg ⟨[.bool (!((str (enc (nv (seg xs o l)))).toList==(⟨#[]⟩:ByteArray).toList)),.string (str (enc (nv (seg xs o l))))]⟩,[.is .u32 xs 144]) else some (.agg ⟨[.bool false,.string (str (enc (nv (seg xs o l))))]⟩,[.is .u32 xs 144]) else none:=by kernel_rfl
theorem with.runn (b:Bool):xfn Tryz.prog ⟨[(135,mag.sp)],[],[]⟩ [] 10 Tryz.f120 [.slice none 0 0,.bool b] []=
 bif b then some (.agg ⟨[.bool (!((str []).toList==(⟨#[]⟩:ByteArray).toList)),.string (str [])]⟩,[]) else some (.agg ⟨[.bool false,.string (str [])]⟩,[]):=by kernel_rfl
theorem HY (l:List UInt8):((str l).toList==(⟨#[]⟩:ByteArray).toList)=l.isEmpty:=by
 rw [←JR]
 cases l with
 |nil=>rfl
 | cons b r=>
  cases h:(str (b::r)==(⟨#[]⟩:ByteArray)) with
  |false=>rfl
  | true=>
   have:=congrArg ByteArray.size (RP h)
   exact absurd this (Nat.succ_ne_zero r.length)
theorem HI {v:Int} (h:0≤v):(enc v).isEmpty=(v==0):=by
 cases h0:v==0 with
 | true=>
  have:v=0:=by simpa using h0
  subst this; rfl
 | false=>
  have:v≠0:=by simpa using h0
  cases he:enc v with
  |nil=>exact absurd ((RI h).1 he) this
  |cons _ _=>rfl
theorem with.ok:SOK Tryz.prog 120 with.sp:=by
 refine Cu (E:=⟨[(135,mag.sp)],[],[]⟩) (L:=[]) ⟨Aa QN.ok Ac,Ai,Ad,Ah⟩ 10 Tryz.func120 (by decide) rfl Bv fun vs bl v bl' h=> ?_
 unfold with.sp at h
 split at h
 ·rename_i o l c b xs
  simp only [zS,zP] at h
  obtain ⟨h1,rfl,rfl⟩:=h
  obtain ⟨ho,hl,hd⟩:=Eo.1 h1
  refine ⟨(with.run o l c xs b).trans ?_,by simp [okV,Nat.blt],clo_spec 8 _ rfl,Ay rfl⟩
  rw [ct h1,HY,HI (El (Fg hd o l))]
  cases b<;>rfl
 ·rename_i b
  simp only [zS,zP,true_and] at h
  obtain ⟨rfl,rfl⟩:=h
  refine ⟨(with.runn b).trans ?_,by simp [okV,Nat.blt],clo_spec 8 _ rfl,Ay rfl⟩
  rw [HY]
  cases b<;>rfl
 ·cases h
section
variable {N:Nat→Prop} {xe:X} {Se:St} (s:ByteArray) (n m:Nat) (z i:Int) (out:List Int) (ty:TypeId) (nx:Nat)
abbrev bof.st:St:=⟨gbuild [(0,.string s),(3,.slice (some ⟨80,0,none⟩) n m),(12,.int .i64 z),(13,.int .i64 i)] 0 39,[(80,.is .u32 out ty)],nx⟩
abbrev bof.lk:=RX.lk [0,3,12,13] [80]
theorem bof.rnd:rd Tryz.prog ⟨[],[],[]⟩ [] 3 (Ag Tryz.f121 0) (bof.st s n m z i out ty nx) 39 [0,3,12,13] [80]=
 bif decide (i<z) then bif decide (0≤i64.wrap (i.tdiv 4))&&decide (i64.wrap (i.tdiv 4)<((n:Nat):Int)) then bif (0+(i64.wrap (i.tdiv 4)).toNat*1).blt out.length then bif decide (0≤i64.wrap (i64.wrap (((s.size:Nat):Int)-1)-i))&&decide (i64.wrap (i64.wrap (((s.size:Nat):Int)-1)-i)<((s.size:Nat):Int)) then bif decide (0≤i64.wrap (8*i.tmod 4)) then bif decide (0≤i64.wrap (i.tdiv 4))&&decide (i64.wrap (i.tdiv 4)<((n:Nat):Int)) then bif (0+(i64.wrap (i.tdiv 4)).toNat*1).blt out.length then bof.lk .normal (bof.st s n m z (i64.wrap (i+1)) (out.set (0+(i64.wrap (i.tdiv 4)).toNat*1) (Ew BinOp.or u32 (out.getD (0+(i64.wrap (i.tdiv 4)).toNat*1) 0) (u32.wrap (u32.wrap (((s.data.toList.getD (i64.wrap (i64.wrap (((s.size:Nat):Int)-1)-i)).toNat 0).toNat:Nat):Int)*2^min (i64.wrap (8*i.tmod 4)).toNat u32.bits)))) ty nx) else none else none else none else none else none else none else bof.lk (.exit 0) (bof.st s n m z i out ty nx):=by kernel_rfl
def bof.step0:=fun h0 h1 h2 h3 h4 h5 h6 (ih:Lq Tryz.prog N (Ag Tryz.f121 0) _ xe Se)=>Lq.toK (f:=3) ⟨Ac,Ai,Ad,Ah⟩ Be ((((((((bof.rnd s n m z i out ty nx).ct h0).ct h1).ct h2).ct h3).ct h4).ct h5).ct h6) rfl rfl ih
def bof.stop1:=fun h0=>Lq.endK (N:=N) (f:=3) ⟨Ac,Ai,Ad,Ah⟩ Be ((bof.rnd s n m z i out ty nx).cf h0) (fun q=>by cases q) rfl rfl
end
def bof.ok (s:ByteArray) (n:Nat) (z i:Int) (out:List Int):Bool:=decide (i=0)&&(decide (z=(s.size:Int))&&(Nat.beq n ((s.size+3)/4)&&(decide (out=dg n 0)&&Nat.ble s.size 8589934592)))
def bof.lt (s:ByteArray) (n m:Nat) (z i:Int) (out:List Int) (ty:TypeId) (nx:Nat):LT:= .got (bof.ok s n z i out) (.exit 0) (bof.st s n m z z (dg n (bv s.data.toList)) ty nx)
theorem bof.go {N:Nat→Prop} (s:ByteArray) (n m:Nat) (ty:TypeId) (nx:Nat) (hn:n=(s.size+3)/4) (hs:s.size≤8589934592):∀(j k:Nat),k+j=s.size→Lq Tryz.prog N (Ag Tryz.f121 0) (bof.st s n m (s.size:Int) (k:Int) (dg n (lv (s.data.toList.reverse.take k))) ty nx) (.exit 0) (bof.st s n m (s.size:Int) (s.size:Int) (dg n (bv s.data.toList)) ty nx)
 | 0,k,h=>by
  have hk:k=s.size:=by omega
  subst hk
  have hl:s.data.toList.reverse.take s.size=s.data.toList.reverse:=List.take_of_length_le (by rw [List.length_reverse]; exact Nat.le_refl _)
  rw [hl]
  exact bof.stop1 _ _ _ _ _ _ _ _ (dfalse (by omega))
 | j + 1,k,h=>by
  have hL:s.data.toList.reverse.length=s.size:=by rw [List.length_reverse]; rfl
  have hk:k<s.data.toList.reverse.length:=by omega
  have e1:i64.wrap ((k:Int).tdiv 4)=((k/4:Nat):Int):=by rw [Int.tdiv_eq_ediv_of_nonneg (by omega),w64 (by omega) (by omega)]; omega
  have e2:(k:Int).tmod 4=((k%4:Nat):Int):=by rw [Int.tmod_eq_emod_of_nonneg (by omega)]; omega
  have e3:i64.wrap (8*(k:Int).tmod 4)=((8*(k%4):Nat):Int):=by rw [e2,w64 (by omega) (by omega)]; omega
  have e4:i64.wrap (i64.wrap ((s.size:Int)-1)-(k:Int))=((s.size-1-k:Nat):Int):=by rw [w64 (n:=(s.size:Int)-1) (by omega) (by omega),w64 (by omega) (by omega)]; omega
  have e5:i64.wrap ((k:Int)+1)=((k+1:Nat):Int):=by rw [w64 (by omega) (by omega)]; omega
  have c1:(decide (0≤i64.wrap ((k:Int).tdiv 4))&&decide (i64.wrap ((k:Int).tdiv 4)<(n:Int)))=true:=by rw [e1]; exact dtrue2 (by omega) (by omega)
  have c2:(0+(i64.wrap ((k:Int).tdiv 4)).toNat*1).blt (dg n (lv (s.data.toList.reverse.take k))).length=true:=by rw [e1,Di]; exact Fi (by simp; omega)
  refine bof.step0 _ _ _ _ _ _ _ _ (dtrue (by omega)) c1 c2 (by rw [e4]; exact dtrue2 (by omega) (by omega)) (by rw [e3]; exact dtrue (by omega)) c1 c2 ?_
  have hb:s.data.toList.getD (s.size-1-k) 0=s.data.toList.reverse[k]:=by
   have hlen:s.data.toList.length=s.size:=rfl
   rw [List.getElem_reverse,List.getD_eq_getElem?_getD,List.getElem?_eq_getElem (by omega)]
   simp [hlen]
  rw [e1,e3,e4,e5,Int.toNat_natCast,Int.toNat_natCast,Int.toNat_natCast,hb]
  have hlt:(s.data.toList.reverse[k]).toNat<256:=(s.data.toList.reverse[k]).toNat_lt
  have hm:min (8*(k%4)) u32.bits=8*(k%4):=Nat.min_eq_left (by show 8*(k%4)≤32; omega)
  have hr4:k%4<4:=Nat.mod_lt _ (by decide)
  have hlv0:=K4 (s.data.toList.reverse.take k)
  have hlv:=RB (s.data.toList.reverse.take k)
  rw [List.length_take,Nat.min_eq_left (by omega)] at hlv
  have hkq:k=4*(k/4)+k%4:=by omega
  have hw:u32.wrap (u32.wrap (((s.data.toList.reverse[k]).toNat:Nat):Int)*2^min (8*(k%4)) u32.bits)=(((s.data.toList.reverse[k]).toNat:Nat):Int)*((2^(8*(k%4)):Nat):Int):=by
   have h2:((2^(8*(k%4)):Nat):Int)≤16777216:=by
    have:=Nat.pow_le_pow_right (show 0<2 by decide) (show 8*(k%4)≤24 by omega)
    omega
   have h2p:0<((2^(8*(k%4)):Nat):Int):=by have:=Nat.two_pow_pos (8*(k%4)); omega
   have h3:(((s.data.toList.reverse[k]).toNat:Nat):Int)*((2^(8*(k%4)):Nat):Int)≤255*16777216:=Int.mul_le_mul (by omega) h2 (by omega) (by omega)
   rw [hm,u32of (n:=(((s.data.toList.reverse[k]).toNat:Nat):Int)) (by omega) (by omega),show ((2:Int)^(8*(k%4)))=((2^(8*(k%4)):Nat):Int) from (Int.natCast_pow 2 _).symm]
   exact u32of (Int.mul_nonneg (by omega) (by omega)) (by omega)
  have hg0:=(Fj (Gn n (lv (s.data.toList.reverse.take k))) (k/4)).1
  have hg1:=NB (k/4) n (lv (s.data.toList.reverse.take k)) (k%4) hlv0 (by rw [←hkq]; exact hlv) (by omega)
  have hsum:(dg n (lv (s.data.toList.reverse.take k))).getD (k/4) 0+(((s.data.toList.reverse[k]).toNat:Nat):Int)*((2^(8*(k%4)):Nat):Int)<4294967296:=by
   rw [←Pw] at*
   have h4:p8 (k%4+1)≤4294967296:=Int.le_trans (HA (show k%4+1≤4 by omega)) (by decide)
   rw [Ih] at h4
   have h5:(((s.data.toList.reverse[k]).toNat:Nat):Int)*p8 (k%4)≤255*p8 (k%4):=Int.mul_le_mul_of_nonneg_right (by omega) (by have:=Hk (k%4); omega)
   omega
  rw [hw,Nat.zero_add,Nat.mul_one,or32 hg0 (by rw [←Pw]; exact hg1) (by omega) hsum]
  have ht:s.data.toList.reverse.take (k+1)=s.data.toList.reverse.take k++[s.data.toList.reverse[k]]:=by
   rw [List.take_add_one,List.getElem?_eq_getElem hk]; rfl
  have hset:=SQ (k/4) n (lv (s.data.toList.reverse.take k)) (k%4) (((s.data.toList.reverse[k]).toNat:Nat):Int) (by omega) hr4 hlv0 (by rw [←hkq]; exact hlv) (by omega) (by omega)
  rw [←hkq] at hset
  have hlv2:lv (s.data.toList.reverse.take (k+1))=lv (s.data.toList.reverse.take k)+p8 k*(((s.data.toList.reverse[k]).toNat:Nat):Int):=by
   rw [ht,OK,List.length_take,Nat.min_eq_left (by omega)]
  rw [←Pw,←hset,←hlv2]
  exact bof.go s n m ty nx hn hs j (k+1) (by omega)
theorem bof.lp {N:Nat→Prop} (s:ByteArray) (n m:Nat) (z i:Int) (out:List Int) (ty:TypeId) (nx:Nat) {x:X} {S':St} (h:(bof.lt s n m z i out ty nx).at=some (x,S')):Lq Tryz.prog N (Ag Tryz.f121 0) (bof.st s n m z i out ty nx) x S':=by
 obtain ⟨h1,rfl,rfl⟩:=Fw h
 simp only [bof.ok,zB,Nat.ble_eq,zD] at h1
 obtain ⟨rfl,rfl,h3,rfl,h5⟩:=h1
 exact bof.go s n m ty nx (zE h3) h5 s.size 0 (by omega)
def bof.t:LSpec:=fun S=>match RX.nth S.tmps 0,RX.nth S.tmps 3,RX.nth S.tmps 12,RX.nth S.tmps 13,RX.look S.heap 80 with
 | .string s,.slice (some ⟨80,0,none⟩) n m,.int .i64 z,.int .i64 i,some (.is .u32 out ty)=>bif Nat.beq S.tmps.length 39 then some (bof.lt s n m z i out ty S.nxt) else none
 |_,_,_,_,_=>none
theorem bof.lok {N:Nat→Prop} :LOKn Tryz.prog N (Ag Tryz.f121 0) (bof.t):=by
 refine Ge fun S lt x S' ht hat=> ?_
 unfold bof.t at ht
 split at ht
 ·rename_i s n m z i out ty h0 h3 h12 h13 g80
  cases hb:Nat.beq S.tmps.length 39 with
  |false=>rw [hb] at ht; cases ht
  | true=>
   rw [hb] at ht
   injection ht with ht
   subst ht
   have hb:=zE hb
   exact .enter (fun h=>Gr hb (.cons ⟨h0,bnth h h0⟩ (.cons ⟨h3,bnth h h3⟩ (.cons ⟨h12,bnth h h12⟩ (.cons ⟨h13,bnth h h13⟩ .nil)))) (.cons ⟨g80,bname h g80,rfl⟩ .nil)) (bof.lp _ _ _ _ _ _ _ _ hat)
 ·cases ht
end Go.Proofs.YtphlckkbihmlnaaGreatDoor.G
end
