/- A part of what the law's proof leans on. PACKED BY pack.py of this repo. -/
import Derived.Test.YtdadecjefafflaaO5
set_option linter.unusedVariables false
set_option linter.unusedSimpArgs false
set_option linter.defProp false
set_option linter.unusedSectionVars false
section
namespace Go.Proofs.Ytdadecjefafflaa.PAll
open Go.RowKit Go.Proofs.YtdadecjefafflaaW.PrintWords Go.Proofs.YtdadecjefafflaaW.PrintLast Go.Proofs.YtdadecjefafflaaW.PrintMore
theorem D3 {α:Type} (l:List α) (t i:Nat) (x d:α) (ht:t<l.length):(l.set t x).getD i d=if i=t then x else l.getD i d:=by
 rw [List.getD_eq_getElem?_getD,List.getD_eq_getElem?_getD,List.getElem?_set]
 by_cases h:t=i
 ·subst h; rw [if_pos rfl,if_pos ht,if_pos rfl]; rfl
 ·rw [if_neg h,if_neg (fun e=>h e.symm)]
theorem Dp (s:List S47) (t i:Nat) (x:S47) (ht:t<s.length):An (s.set t x) (i:Int)=if i=t then x else An s i:=by
 unfold An; rw [Int.toNat_natCast]; exact D3 s t i x z47 ht
theorem Eu (s:List Int) (t i:Nat) (x:Int) (ht:t<s.length):rd (s.set t x) (i:Int)=if i=t then x else rd s i:=by
 unfold rd; rw [Int.toNat_natCast]; exact D3 s t i x 0 ht
def Pd (pl:List Bool) (i:Nat):Bool:=rdOf false pl (i:Int)
theorem Cd (pl:List Bool) (t i:Nat) (ht:t<pl.length):Pd (pl.set t true) i=if i=t then true else Pd pl i:=by
 unfold Pd rdOf; rw [Int.toNat_natCast]; exact D3 pl t i true false ht
theorem ED (ts:List S64) (s:List S47) (t i:Nat) (x:S47) (ht:t<s.length):En ts (s.set t x) i=if i=t then x.f1+Pm ts t else En ts s i:=by
 rw [EV,EV,Dp s t i x ht]
 by_cases h:i=t
 ·subst h; rw [if_pos rfl,if_pos rfl]
 ·rw [if_neg h,if_neg h]
def BE (pl:List Bool) (f:Nat→Int) (i:Nat):Int:=if Pd pl i=true then f i else 0
theorem Cm (pl:List Bool) (f:Nat→Int) (t:Nat) (ht:t<pl.length) (hp:Pd pl t=false):∀n,sumN (BE (pl.set t true) f) n=sumN (BE pl f) n+if t<n then f t else 0
 |0=>by rw [sumN,sumN,if_neg (by omega)]; rfl
 | n + 1=>by
  rw [sumN,sumN,Cm pl f t ht hp n]
  by_cases h:n=t
  ·have e1:BE (pl.set t true) f n=f t:=by
    unfold BE; rw [Cd pl t n ht,if_pos h,h]; rfl
   have e2:BE pl f n=0:=by
    unfold BE; rw [h,hp]; rfl
   rw [e1,e2,if_neg (show ¬t<n by omega),if_pos (show t<n+1 by omega),Int.add_zero]
  ·have e1:BE (pl.set t true) f n=BE pl f n:=by
    unfold BE; rw [Cd pl t n ht,if_neg h]
   rw [e1]
   by_cases g:t<n
   ·rw [if_pos g,if_pos (show t<n+1 by omega)]; omega
   ·rw [if_neg g,if_neg (show ¬t<n+1 by omega)]; omega
theorem Dj (pl:List Bool) {f:Nat→Int} (n:Nat) (h:∀i,i<n→0≤f i):sumN (BE pl f) n≤sumN f n:=Cn n fun i hi=>by
 have:=h i hi
 unfold BE; split<;>omega
theorem F0 (pl:List Bool) (d:Nat):BE pl (fun _=>1) d≤1:=by
 show (if Pd pl d=true then (1:Int) else 0)≤1
 split<;>omega
theorem EF (pl:List Bool) (n:Nat):sumN (BE pl fun _=>1) n≤(n:Int):=by
 have g3:sumN (BE pl fun _=>1) n≤sumN (fun _=>1) n:=Cn n fun i _=>F0 pl i
 rw [CL] at g3
 omega
theorem Eq {pl:List Bool} {k:Nat} (hp:Pd pl k=false):∀d:Nat,k<d→sumN (BE pl fun _=>1) d<(d:Int)
 | d +1,hd=>by
  rw [sumN]
  have g:=F0 pl d
  by_cases e:k=d
  ·subst e
   have g2:BE pl (fun _=>1) k=0:=by unfold BE; rw [hp]; rfl
   have:=EF pl k
   omega
  ·have:=Eq hp d (by omega); omega
theorem CQ (pl:List Bool) (n:Nat) (h:sumN (BE pl fun _=>1) n=(n:Int)):∀i,i<n→Pd pl i=true:=by
 intro i hi
 cases hp:Pd pl i with
 |true=>rfl
 |false=>have:=Eq hp n hi; omega
theorem Dk (pl:List Bool):∀n:Nat,(∀i,i<n→Pd pl i=true)→sumN (BE pl fun _=>1) n=(n:Int)
 |0,_=>by rw [sumN]; rfl
 | n+1,h=>by
  have g2:BE pl (fun _=>1) n=1:=by unfold BE; rw [h n (by omega)]; rfl
  rw [sumN,Dk pl n fun i hi=>h i (by omega),g2]; omega
theorem unplaced (pl:List Bool):∀n:Nat,sumN (BE pl fun _=>1) n<(n:Int)→∃i,i<n∧Pd pl i=false∧∀k,k<i→Pd pl k=true
 |0,h=>by rw [sumN] at h; omega
 | n + 1,h=>by
  by_cases c:sumN (BE pl fun _=>1) n<(n:Int)
  ·obtain ⟨i,h1,h2⟩:=unplaced pl n c
   exact ⟨i,by omega,h2⟩
  ·have g:=EF pl n
   have hall:=CQ pl n (by omega)
   refine ⟨n,by omega,?_,hall⟩
   cases hp:Pd pl n with
   |false=>rfl
   | true=>
    exfalso
    have:=Dk pl (n+1) fun i hi=>by
     by_cases e:i=n
     ·rw [e]; exact hp
     ·exact hall i (by omega)
    omega
def CJ (fr:List Int):Nat→Nat→Nat→Nat
 |0,_,j=>j
 |d+1,i,j=>CJ fr d (i+1) (if rd fr i<rd fr j then i else j)
def minJ (fr:List Int):Nat:=CJ fr (fr.length-1) 1 0
theorem Cy (fr:List Int):∀(d i j:Nat),j<i→(∀q,q<j→rd fr j<rd fr q)→(∀q,q<i→rd fr j≤rd fr q)→
  (CJ fr d i j<i+d)∧(∀q,q<CJ fr d i j→rd fr (CJ fr d i j)<rd fr q)∧∀q,q<i+d→rd fr (CJ fr d i j)≤rd fr q
 |0,i,j,h1,h2,h3=>⟨by rw [CJ]; omega,h2,h3⟩
 | d + 1,i,j,h1,h2,h3=>by
  rw [CJ]
  by_cases c:rd fr i<rd fr j
  ·rw [if_pos c]
   have:=Cy fr d (i+1) i (by omega) (fun q hq=>by have:=h3 q hq; omega) fun q hq=>by
    by_cases e:q=i
    ·subst e; exact Int.le_refl _
    ·have:=h3 q (by omega); omega
   rw [show i+1+d=i+(d+1) by omega] at this
   exact this
  ·rw [if_neg c]
   have:=Cy fr d (i+1) j (by omega) h2 fun q hq=>by
    by_cases e:q=i
    ·subst e; omega
    ·exact h3 q (by omega)
   rw [show i+1+d=i+(d+1) by omega] at this
   exact this
theorem EH {fr:List Int} (h:fr.length≠0):minJ fr<fr.length∧(∀q,q<minJ fr→rd fr (minJ fr)<rd fr q)∧∀q,q<fr.length→rd fr (minJ fr)≤rd fr q:=by
 have:=Cy fr (fr.length-1) 1 0 (by omega) (fun q hq=>by omega) fun q hq=>by
  obtain rfl:q=0:=by omega
  exact Int.le_refl _
 rw [show 1+(fr.length-1)=fr.length by omega] at this
 exact this
theorem DT (fr:List Int):∀(d i j:Nat),mnGo fr d i (rd fr j)=rd fr (CJ fr d i j)
 |0,_,_=>rfl
 | d+1,i,j=>by
  rw [mnGo,CJ]
  unfold mn
  by_cases c:rd fr i<rd fr j
  ·rw [if_pos c,if_pos c]; exact DT fr d (i+1) i
  ·rw [if_neg c,if_neg c]; exact DT fr d (i+1) j
theorem min_eq {fr:List Int} (h:fr.length≠0):B5.f fr=some (rd fr (minJ fr)):=by
 unfold B5.f
 rw [if_neg h]
 exact congrArg some (DT fr _ 1 0)
theorem Dx (l:List Int) (v:Int) (r:Nat) (hl:l.length≤9000000000000000000) (hr:r<l.length) (e:rd l r=v) (hf:∀j,j<r→rd l j≠v):∀(d i:Nat),i+d=r→Ev (fun k=>Ac.l0 k l v (l.length:Int) (i:Int)) (r:Int)
 | 0,i,hd=>by
  obtain rfl:i=r:=by omega
  exact Ev.step (fun k=>rfl) (Ev.iff_pos (by omega) (Ev.iff_pos (by omega) (Ev.iff_pos (by omega) (Ev.iff_pos e.symm (Ev.now _)))))
 | d+1,i,hd=>by
  have ih:=Dx l v r hl hr e hf d (i+1) (by omega)
  refine Ev.step (fun k=>rfl) (Ev.iff_pos (by omega) (Ev.iff_pos (by omega) (Ev.iff_pos (by omega) (Ev.iff_neg (fun h=>hf i (by omega) h.symm) ?_))))
  rw [wsucc i (by omega)]
  exact ih
theorem FB {fr:List Int} (h:fr.length≠0) (hl:fr.length≤9000000000000000000):Ev (fun k=>Ac.f k fr (rd fr (minJ fr))) (minJ fr:Int):=by
 obtain ⟨h1,h2,_⟩:=EH h
 exact Dx fr _ (minJ fr) hl h1 rfl (fun j hj=>by have:=h2 j hj; omega) (minJ fr) 0 (by omega)
def BH (pl:List Bool) (ts:List S64) (i:Nat):Bool:= !Pd pl i&&(Af ts i).all fun a=>Pd pl a.toNat
def CX (order:List Int) (pl:List Bool) (ts:List S64):Nat:=order.findIdx fun i=>BH pl ts i.toNat
theorem DI {pl:List Bool} {a:Int} (h:0≤a∧a<(pl.length:Int)):C4 pl a=some (!Pd pl a.toNat):=by
 unfold C4 Pd rdOf
 rw [if_pos h.1,if_pos h.2,Int.toNat_natCast]
theorem C7 {m:Int} {ts:List S64} (V:Vt m ts) {pl:List Bool} (hl:pl.length=ts.length) {i:Int} (h:0≤i∧i<(ts.length:Int)):ready pl ts i=some (BH pl ts i.toNat):=by
 obtain ⟨n,rfl⟩:=Int.eq_ofNat_of_zero_le h.1
 unfold ready BH
 rw [DI (by omega),Option.bind_some,Int.toNat_natCast]
 cases Pd pl n with
 |true=>rfl
 | false=>
  rw [if_pos (by rfl),if_pos h.2]
  have:anyO (C4 pl) (AN ts n).f3=some ((AN ts n).f3.any fun a=> !Pd pl a.toNat):=DZ _ _ _ fun a ha=>by
   have:=V.af n (by omega) a ha
   exact DI (by omega)
  rw [this]
  simp [Af,List.not_any_eq_all_not]
theorem F9 (p:Int→Option Bool) (q:Int→Bool):∀(l:List Int) (i:Nat),(∀x∈l,p x=some (q x))→(∃x∈l,q x=true)→ixO p l i=some ((i+l.findIdx q:Nat):Int)
 |[],i,_,h=>by obtain ⟨x,hx,_⟩:=h; simp at hx
 | x ::r,i,h,he=>by
  rw [ixO,h x (by simp),Option.bind_some,List.findIdx_cons]
  cases hq:q x with
  |true=>simp
  | false=>
   rw [if_neg (by simp),F9 p q r (i+1) (fun y hy=>h y (by simp [hy])) (by
    obtain ⟨y,hy,h2⟩:=he
    rcases List.mem_cons.1 hy with rfl|hy
    ·rw [hq] at h2; cases h2
    ·exact ⟨y,hy,h2⟩)]
   simp only [cond_false]
   congr 1; omega
end Go.Proofs.Ytdadecjefafflaa.PAll
end
section
namespace Go.Proofs.Ytdadecjefafflaa.PAll
open Go.RowKit Go.Proofs.YtdadecjefafflaaW.PrintWords Go.Proofs.YtdadecjefafflaaW.PrintLast Go.Proofs.YtdadecjefafflaaW.PrintMore
structure St where
 s:List S47
 fr:List Int
 pl:List Bool
def Sp (ts:List S64) (x:St):Int:=sumN (BE x.pl (Pm ts)) ts.length
def Bd (ts:List S64) (x:St) (t:Nat):Int:=mxL (fun q=>En ts x.s (rd (Af ts t) q).toNat) (Af ts t).length 0 (rd x.fr (minJ x.fr))
def place (ts:List S64) (x:St) (t:Nat):St:=⟨x.s.set t ⟨minJ x.fr,Bd ts x t⟩,x.fr.set (minJ x.fr) (Bd ts x t+Pm ts t),x.pl.set t true⟩
structure Inv (M:Nat) (ts:List S64) (c:Nat) (x:St):Prop where
 ls:x.s.length=ts.length
 lf:x.fr.length=M
 lp:x.pl.length=ts.length
 cnt:sumN (BE x.pl fun _=>1) ts.length=(c:Int)
 f0:∀j,j<M→0≤rd x.fr (j:Nat)∧rd x.fr (j:Nat)≤Sp ts x
 sb:∀i,i<ts.length→0≤(An x.s (i:Nat)).f1∧(An x.s (i:Nat)).f1≤Sp ts x
 ma:∀i,i<ts.length→Pd x.pl i=true→∃j:Nat,j<M∧(An x.s (i:Nat)).f0=(j:Int)∧En ts x.s i≤rd x.fr (j:Nat)
 ov:∀i k,i<ts.length→k<ts.length→Pd x.pl i=true→Pd x.pl k=true→i≠k→(An x.s (i:Nat)).f0=(An x.s (k:Nat)).f0→¬((An x.s (i:Nat)).f1<En ts x.s k∧(An x.s (k:Nat)).f1<En ts x.s i)
 af:∀i,i<ts.length→Pd x.pl i=true→∀a∈Af ts i,Pd x.pl a.toNat=true∧En ts x.s a.toNat≤(An x.s (i:Nat)).f1
 wit:∀j,j<M→rd x.fr (j:Nat)=0∨∃i,i<ts.length∧Pd x.pl i=true∧rd x.fr (j:Nat)=En ts x.s i
 one:M=1→rd x.fr (0:Nat)=Sp ts x
structure Free (M:Nat) (B:Int) (ts:List S64) (x:St):Prop where
 g1:sumN (fun j=>rd x.fr (j:Nat)) M=Sp ts x
 g2:∀i,i<ts.length→Pd x.pl i=true→(M:Int)*En ts x.s i≤(2*(M:Int)-1)*B
theorem Cv {pl:List Bool} {ts:List S64} {t:Nat} (h:BH pl ts t=true):Pd pl t=false∧∀a∈Af ts t,Pd pl a.toNat=true:=by
 unfold BH at h
 rw [Bool.and_eq_true] at h
 refine ⟨by simpa using h.1,fun a ha=> ?_⟩
 have:=h.2
 rw [List.all_eq_true] at this
 exact this a ha
theorem Ct {M:Nat} {ts:List S64} {c:Nat} {x:St} {m:Int} (V:Vt m ts) (I:Inv M ts c x) (hM:0<M) {t:Nat} (ht:t<ts.length) (hr:BH x.pl ts t=true):
  minJ x.fr<M∧(∀q,q<M→rd x.fr (minJ x.fr)≤rd x.fr (q:Nat))∧rd x.fr (minJ x.fr)≤Bd ts x t∧0≤Bd ts x t∧Bd ts x t≤Sp ts x∧∀a∈Af ts t,En ts x.s a.toNat≤Bd ts x t:=by
 have hl:=I.lf
 obtain ⟨h1,_,h2⟩:=EH (fr:=x.fr) (by omega)
 rw [hl] at h1 h2
 obtain ⟨h3,h4⟩:=CN (fun q=>En ts x.s (rd (Af ts t) q).toNat) (Af ts t).length 0 (rd x.fr (minJ x.fr))
 have hf:=I.f0 _ h1
 obtain ⟨_,hp⟩:=Cv hr
 have enp:∀a∈Af ts t,En ts x.s a.toNat≤Sp ts x:=fun a ha=>by
  have hA:=V.af t ht a ha
  obtain ⟨j,hj,_,hE⟩:=I.ma a.toNat (by omega) (hp a ha)
  have:=I.f0 j hj
  omega
 refine ⟨h1,h2,h3,by unfold Bd; omega,?_,fun a ha=> ?_⟩
 ·exact CZ _ _ _ _ hf.2 fun j _ hj=>enp _ (Da (by omega))
 ·obtain ⟨j,hj,rfl⟩:=FL ha
  exact h4 j (by omega) (by omega)
theorem E1 {ts:List S64} {x:St} {t:Nat} (hl:x.pl.length=ts.length) (ht:t<ts.length) (hp:Pd x.pl t=false):Sp ts (place ts x t)=Sp ts x+Pm ts t:=by
 unfold Sp place
 simp only
 rw [Cm x.pl (Pm ts) t (by omega) hp,if_pos ht]
theorem Cx {M:Nat} {ts:List S64} {c:Nat} {x:St} {m:Int} (V:Vt m ts) (I:Inv M ts c x) (hM:0<M) {t:Nat} (ht:t<ts.length) (hr:BH x.pl ts t=true):Inv M ts (c+1) (place ts x t):=by
 obtain ⟨s1,s2,s3,s4,s5,s6⟩:=Ct V I hM ht hr
 obtain ⟨hp,hpa⟩:=Cv hr
 have hPm:=V.t1 t ht
 have hSp:=E1 I.lp ht hp
 have hls:t<x.s.length:=by rw [I.ls]; exact ht
 have hlp:t<x.pl.length:=by rw [I.lp]; exact ht
 have hlf:minJ x.fr<x.fr.length:=by rw [I.lf]; exact s1
 have eP:∀i,Pd (place ts x t).pl i=if i=t then true else Pd x.pl i:=fun i=>Cd x.pl t i hlp
 have eS:∀i:Nat,An (place ts x t).s i=if i=t then ⟨minJ x.fr,Bd ts x t⟩ else An x.s i:=fun i=>Dp x.s t i _ hls
 have eE:∀i:Nat,En ts (place ts x t).s i=if i=t then Bd ts x t+Pm ts t else En ts x.s i:=fun i=>ED ts x.s t i _ hls
 have eF:∀j:Nat,rd (place ts x t).fr j=if j=minJ x.fr then Bd ts x t+Pm ts t else rd x.fr j:=fun j=>Eu x.fr (minJ x.fr) j _ hlf
 have eA:∀a∈Af ts t,a.toNat≠t:=fun a ha=>by have:=V.af t ht a ha; omega
 have hPm':1≤Pm ts t:=hPm.1
 refine ⟨?_,?_,?_,?_,?_,?_,?_,?_,?_,?_,?_⟩
 ·show (x.s.set _ _).length=_
  rw [List.length_set]; exact I.ls
 ·show (x.fr.set _ _).length=_
  rw [List.length_set]; exact I.lf
 ·show (x.pl.set _ _).length=_
  rw [List.length_set]; exact I.lp
 ·show sumN (BE (x.pl.set t true) fun _=>1) ts.length=_
  rw [Cm x.pl (fun _=>1) t hlp hp,I.cnt,if_pos ht]; omega
 ·intro j hj
  rw [eF,hSp]
  have:=I.f0 j hj
  split<;>omega
 ·intro i hi
  rw [eS,hSp]
  have:=I.sb i hi
  split
  ·simp only; omega
  ·omega
 ·intro i hi hpi
  rw [eP] at hpi
  rw [eS,eE]
  by_cases e:i=t
  ·rw [if_pos e,if_pos e]
   exact ⟨minJ x.fr,s1,rfl,by rw [eF,if_pos rfl]; exact Int.le_refl _⟩
  ·rw [if_neg e] at hpi ⊢
   rw [if_neg e]
   obtain ⟨j,hj,h1,h2⟩:=I.ma i hi hpi
   refine ⟨j,hj,h1,?_⟩
   rw [eF]
   split
   ·rename_i g; rw [g] at h2; omega
   ·exact h2
 ·intro i k hi hk hpi hpk hne
  rw [eP] at hpi hpk
  rw [eS,eS,eE,eE]
  by_cases e:i=t
  ·rw [if_pos e,if_pos e]
   have e2:k≠t:=fun h=>hne (e.trans h.symm)
   rw [if_neg e2] at hpk
   rw [if_neg e2,if_neg e2]
   intro he
   obtain ⟨j,hj,h1,h2⟩:=I.ma k hk hpk
   simp only at he
   rw [h1] at he
   have:j=minJ x.fr:=by omega
   rw [this] at h2
   simp only; omega
  ·rw [if_neg e] at hpi
   rw [if_neg e,if_neg e]
   by_cases e2:k=t
   ·rw [if_pos e2,if_pos e2]
    intro he
    obtain ⟨j,hj,h1,h2⟩:=I.ma i hi hpi
    simp only at he
    rw [h1] at he
    have:j=minJ x.fr:=by omega
    rw [this] at h2
    simp only; omega
   ·rw [if_neg e2] at hpk
    rw [if_neg e2,if_neg e2]
    exact I.ov i k hi hk hpi hpk hne
 ·intro i hi hpi a ha
  rw [eP] at hpi
  rw [eP,eE,eS]
  by_cases e:i=t
  ·rw [e] at ha
   rw [if_neg (eA a ha),if_neg (eA a ha),if_pos e]
   exact ⟨hpa a ha,s6 a ha⟩
  ·rw [if_neg e] at hpi
   obtain ⟨h1,h2⟩:=I.af i hi hpi a ha
   have e2:a.toNat≠t:=fun h=>by rw [h,hp] at h1; cases h1
   rw [if_neg e2,if_neg e2,if_neg e]
   exact ⟨h1,h2⟩
 ·intro j hj
  rw [eF]
  by_cases e:j=minJ x.fr
  ·rw [if_pos e]
   exact .inr ⟨t,ht,by rw [eP,if_pos rfl],by rw [eE,if_pos rfl]⟩
  ·rw [if_neg e]
   rcases I.wit j hj with h|⟨i,hi,h1,h2⟩
   ·exact .inl h
   ·have e2:i≠t:=fun h=>by rw [h,hp] at h1; cases h1
    exact .inr ⟨i,hi,by rw [eP,if_neg e2]; exact h1,by rw [eE,if_neg e2]; exact h2⟩
 ·intro h1
  have h2:=I.one h1
  have h3:minJ x.fr=0:=by omega
  rw [h3] at s3
  rw [eF,if_pos h3.symm,hSp]
  omega
theorem Er (fr:List Int) (j:Nat) (v:Int) (hj:j<fr.length):∀n,sumN (fun q=>rd (fr.set j v) (q:Nat)) n=sumN (fun q=>rd fr (q:Nat)) n+if j<n then v-rd fr (j:Nat) else 0
 |0=>by rw [sumN,sumN,if_neg (by omega)]; rfl
 | n +1=>by
  rw [sumN,sumN,Er fr j v hj n,Eu fr j n v hj]
  by_cases h:n=j
  ·rw [if_pos h,if_neg (show ¬j<n by omega),if_pos (show j<n+1 by omega),h]; omega
  ·rw [if_neg h]
   by_cases g:j<n
   ·rw [if_pos g,if_pos (show j<n+1 by omega)]; omega
   ·rw [if_neg g,if_neg (show ¬j<n+1 by omega)]; omega
theorem graham {m st p S tot B:Int} (h1:1≤m) (h4:m≤4) (a:m*st≤S) (b:S+p≤tot) (c:tot≤m*B) (d:p≤B):m*(st+p)≤(2*m-1)*B:=by
 obtain rfl|rfl|rfl|rfl:m=1∨m=2∨m=3∨m=4:=by omega
 all_goals omega
theorem Sp_le {m:Int} {ts:List S64} (V:Vt m ts) (x:St):Sp ts x≤totV ts:=Dj x.pl ts.length fun i hi=>by
 have:=V.t1 i hi; unfold Pm; omega
theorem E5 {M:Nat} {ts:List S64} {c:Nat} {x:St} {B:Int} (V:Vt M ts) (I:Inv M ts c x) (F:Free M B ts x) (hB:totV ts≤(M:Int)*B∧∀i,i<ts.length→Pm ts i≤B) (hA:∀i,i<ts.length→Af ts i=[]) {t:Nat} (ht:t<ts.length) (hr:BH x.pl ts t=true):Free M B ts (place ts x t):=by
 have hM:0<M:=by have:=V.m1; omega
 obtain ⟨s1,s2,s3,s4,s5,s6⟩:=Ct V I hM ht hr
 obtain ⟨hp,hpa⟩:=Cv hr
 have hSp:=E1 I.lp ht hp
 have hls:t<x.s.length:=by rw [I.ls]; exact ht
 have hlp:t<x.pl.length:=by rw [I.lp]; exact ht
 have hlf:minJ x.fr<x.fr.length:=by rw [I.lf]; exact s1
 have e0:Bd ts x t=rd x.fr (minJ x.fr):=by unfold Bd; rw [hA t ht]; rfl
 refine ⟨?_,fun i hi hpi=> ?_⟩
 ·show sumN (fun q=>rd (x.fr.set _ _) (q:Nat)) M=_
  rw [Er _ _ _ hlf,if_pos s1,F.g1,hSp,e0]; omega
 ·have eP:Pd (place ts x t).pl i=if i=t then true else Pd x.pl i:=Cd x.pl t i hlp
  have eE:En ts (place ts x t).s i=if i=t then Bd ts x t+Pm ts t else En ts x.s i:=ED ts x.s t i _ hls
  rw [eP] at hpi
  rw [eE]
  by_cases e:i=t
  ·rw [if_pos e]
   have h1:(M:Int)*rd x.fr (minJ x.fr)≤Sp ts x:=by
    rw [←F.g1,←CL]
    exact Cn M fun j hj=>s2 j hj
   have h2:=Sp_le V (place ts x t)
   exact graham V.m1 V.m4 (by rw [e0]; exact h1) (by rw [←hSp]; exact h2) hB.1 (hB.2 t ht)
  ·rw [if_neg e] at hpi ⊢
   exact F.g2 i hi hpi
end Go.Proofs.Ytdadecjefafflaa.PAll
end
section
namespace Go.Proofs.Ytdadecjefafflaa.PAll
open Go.RowKit Go.Proofs.YtdadecjefafflaaW.PrintWords Go.Proofs.YtdadecjefafflaaW.PrintLast Go.Proofs.YtdadecjefafflaaW.PrintMore
structure Po (n:Nat) (order:List Int):Prop where
 l:order.length=n
 r:∀a∈order,0≤a∧a<(n:Int)
 c:∀i:Nat,i<n→(i:Int)∈order
def CI (ts:List S64) (order:List Int) (x:St):Nat:=(rd order (CX order x.pl ts)).toNat
def CV (ts:List S64) (order:List Int):Nat→St→St
 |0,x=>x
 |d+1,x=>CV ts order d (place ts x (CI ts order x))
def BJ (n M:Nat):St:=⟨List.replicate n z47,List.replicate M 0,List.replicate n false⟩
theorem C2 {α:Type} (n i:Nat) (x:α):(List.replicate n x).getD i x=x:=by
 rw [List.getD_eq_getElem?_getD,List.getElem?_replicate]; split<;>rfl
theorem DW (ts:List S64) (M:Nat):Inv M ts 0 (BJ ts.length M):=by
 have eP:∀i,Pd (BJ ts.length M).pl i=false:=fun i=>by unfold Pd rdOf BJ; rw [Int.toNat_natCast]; exact C2 _ _ _
 have eS:∀i:Nat,An (BJ ts.length M).s i=z47:=fun i=>by unfold An BJ; rw [Int.toNat_natCast]; exact C2 _ _ _
 have eF:∀i:Nat,rd (BJ ts.length M).fr i=0:=fun i=>by unfold rd BJ; rw [Int.toNat_natCast]; exact C2 _ _ _
 have e0:∀(f:Nat→Int) n,sumN (BE (BJ ts.length M).pl f) n=0:=fun f n=>by
  rw [←By n]
  exact Bi n fun i _=>by unfold BE; rw [eP]; rfl
 have eSp:Sp ts (BJ ts.length M)=0:=e0 _ _
 refine ⟨by simp [BJ],by simp [BJ],by simp [BJ],e0 _ _,fun j _=> ?_,fun i _=> ?_,fun i _ h=> ?_,fun i k _ _ h=> ?_,fun i _ h=> ?_,fun j _=> .inl (eF j),fun _=> ?_⟩
 ·rw [eF,eSp]; omega
 ·rw [eS,eSp]; exact ⟨Int.le_refl _,Int.le_refl _⟩
 ·rw [eP] at h; cases h
 ·rw [eP] at h; cases h
 ·rw [eP] at h; cases h
 ·rw [eF,eSp]
theorem Ef (ts:List S64) (M:Nat) (B:Int):Free M B ts (BJ ts.length M):=by
 have eP:∀i,Pd (BJ ts.length M).pl i=false:=fun i=>by unfold Pd rdOf BJ; rw [Int.toNat_natCast]; exact C2 _ _ _
 have eF:∀i:Nat,rd (BJ ts.length M).fr i=0:=fun i=>by unfold rd BJ; rw [Int.toNat_natCast]; exact C2 _ _ _
 have eSp:Sp ts (BJ ts.length M)=0:=by
  unfold Sp
  rw [←By ts.length]
  exact Bi _ fun i _=>by unfold BE; rw [eP]; rfl
 refine ⟨?_,fun i _ h=>by rw [eP] at h; cases h⟩
 rw [eSp,←By M]
 exact Bi M fun j _=>eF j
theorem DR {M:Nat} {ts:List S64} {c:Nat} {x:St} {m:Int} {order:List Int} (V:Vt m ts) (I:Inv M ts c x) (O:Po ts.length order) (hc:c<ts.length):
  CX order x.pl ts<order.length∧rd order (CX order x.pl ts)=(CI ts order x:Int)∧CI ts order x<ts.length∧BH x.pl ts (CI ts order x)=true∧∃y∈order,BH x.pl ts y.toNat=true:=by
 obtain ⟨i,hi,h1,h2⟩:=unplaced x.pl ts.length (by rw [I.cnt]; omega)
 have hr:BH x.pl ts i=true:=by
  unfold BH
  rw [h1,Bool.and_eq_true]
  refine ⟨rfl,?_⟩
  rw [List.all_eq_true]
  intro a ha
  have:=V.af i hi a ha
  exact h2 _ (by omega)
 have hex:∃y∈order,BH x.pl ts y.toNat=true:=⟨(i:Int),O.c i hi,by rw [Int.toNat_natCast]; exact hr⟩
 have hlt:CX order x.pl ts<order.length:=List.findIdx_lt_length_of_exists hex
 have hg:BH x.pl ts (order[CX order x.pl ts]).toNat=true:=List.findIdx_getElem (p:=fun i:Int=>BH x.pl ts i.toNat) (w:=hlt)
 have hm:=O.r _ (List.getElem_mem hlt)
 have e:rd order (CX order x.pl ts)=order[CX order x.pl ts]:=rdi _ _ hlt
 have e2:CI ts order x=(order[CX order x.pl ts]).toNat:=by unfold CI; rw [e]
 exact ⟨hlt,by rw [e,e2]; omega,by rw [e2]; omega,by rw [e2]; exact hg,hex⟩
theorem Es {M:Nat} {ts:List S64} {m:Int} {order:List Int} (V:Vt m ts) (O:Po ts.length order) (hM:0<M):∀(d c:Nat) (x:St),Inv M ts c x→c+d=ts.length→Inv M ts ts.length (CV ts order d x)
 |0,c,x,I,h=>by rw [CV]; rw [show c=ts.length by omega] at I; exact I
 | d+1,c,x,I,h=>by
  obtain ⟨_,_,h3,h4,_⟩:=DR V I O (by omega)
  rw [CV]
  exact Es V O hM d (c+1) _ (Cx V I hM h3 h4) (by omega)
theorem Dl {M:Nat} {ts:List S64} {order:List Int} {B:Int} (V:Vt M ts) (O:Po ts.length order) (hB:totV ts≤(M:Int)*B∧∀i,i<ts.length→Pm ts i≤B) (hA:∀i,i<ts.length→Af ts i=[]):∀(d c:Nat) (x:St),Inv M ts c x→Free M B ts x→c+d=ts.length→Free M B ts (CV ts order d x)
 |0,c,x,I,F,h=>F
 | d+1,c,x,I,F,h=>by
  have hM:0<M:=by have:=V.m1; omega
  obtain ⟨_,_,h3,h4,_⟩:=DR V I O (by omega)
  rw [CV]
  exact Dl V O hB hA d (c+1) _ (Cx V I hM h3 h4) (E5 V I F hB hA h3 h4) (by omega)
theorem Inv.sm {M:Nat} {ts:List S64} {c:Nat} {x:St} {m:Int} (V:Vt m ts) (I:Inv M ts c x):Sm ts x.s:=by
 have h1:=Sp_le V x
 have h2:=DE V ts.length (Nat.le_refl _)
 have h3:=V.n
 unfold totV at h1
 exact ⟨I.ls,by omega,fun i hi=>by have:=I.sb i hi; omega,fun i hi=>by have:=V.t1 i hi; omega⟩
theorem EJ {m:Int} {ts:List S64} (order:List Int) (x:St) (S:Sm ts x.s) (t j c:Nat) (ht:t<ts.length) (hlp:x.pl.length=ts.length) (hj:j<x.fr.length) (haf:∀a∈Af ts t,0≤a∧a<(ts.length:Int)) (hn:(Af ts t).length≤9000000000000000000) (N:Int) {A:Int} (S':Sm ts (x.s.set t ⟨j,A⟩)) {r0:List S47}
  (h0:Ev (fun k=>AX.l0 k order (x.s.set t ⟨j,A⟩) (x.fr.set j (A+Pm ts t)) N (wrap64 ((c:Int)+1)) (x.pl.set t true) m ts) r0):
  ∀(d q:Nat) (a:Int),q+d=(Af ts t).length→mxL (fun q=>En ts x.s (rd (Af ts t) q).toNat) d q a=A→Ev (fun k=>AX.l1 k order x.s x.fr (t:Int) (j:Int) a N (c:Int) (Af ts t) ((Af ts t).length:Int) (q:Int) x.pl m ts) r0
 | 0,q,a,hd,hA=>by
  have hl:=S.l
  rw [mxL] at hA
  subst hA
  have hE:=Cb S' m t ht
  have eE:En ts (x.s.set t ⟨j,a⟩) t=a+Pm ts t:=by rw [ED ts x.s t t _ (by omega),if_pos rfl]
  rw [eE] at hE
  refine Ev.step (fun k=>rfl) (Ev.iff_neg (by omega) (Ev.iff_pos (by omega) (Ev.iff_pos (by omega) ?_)))
  rw [Int.toNat_natCast]
  refine Ev.bindc (a:=x.s.set t ⟨j,a⟩) rfl (Ev.iff_pos (by omega) (Ev.bindc hE (Ev.iff_pos (by omega) (Ev.iff_pos (by omega) ?_))))
  exact h0
 | d +1,q,a,hd,hA=>by
  have hm:=haf _ (Da (ts:=ts) (i:=t) (j:=q) (by omega))
  obtain ⟨n,hn2⟩:=Int.eq_ofNat_of_zero_le hm.1
  refine Ev.step (fun k=>rfl) (Ev.iff_pos (by omega) (Ev.iff_pos (by omega) (Ev.iff_pos (by omega) ?_)))
  refine Ev.bindc (a:=En ts x.s (rd (Af ts t) q).toNat) ?_ ?_
  ·rw [hn2,Int.toNat_natCast]; exact Cb S m n (by omega)
  ·rw [wsucc q (by omega)]
   exact EJ order x S t j c ht hlp hj haf hn N S' h0 d (q+1) _ (by omega) hA
theorem EK {M:Nat} {ts:List S64} {order:List Int} (V:Vt M ts) (haf:Sh ts) (O:Po ts.length order):∀(d c:Nat) (x:St),Inv M ts c x→c+d=ts.length→Ev (fun k=>AX.l0 k order x.s x.fr (ts.length:Int) (c:Int) x.pl (M:Int) ts) (CV ts order d x).s
 |0,c,x,I,h=>Ev.step (fun k=>rfl) (Ev.iff_neg (by omega) (Ev.now _))
 | d +1,c,x,I,h=>by
  have hM:0<M:=by have:=V.m1; omega
  obtain ⟨h1,h2,h3,h4,h5⟩:=DR V I O (by omega)
  have hlo:=O.l
  have hlf:=I.lf
  have hm4:=V.m4
  have hn:=V.n
  have I':=Cx V I hM h3 h4
  have hj:=(Ct V I hM h3 h4).1
  have hff:Bj.f order x.pl (M:Int) ts=some (CX order x.pl ts:Int):=by
   unfold Bj.f
   rw [F9 (ready x.pl ts) (fun i=>BH x.pl ts i.toNat) order 0 (fun i hi=>C7 V I.lp (O.r i hi)) h5,Nat.zero_add]
   rfl
  have hx:AN ts (CI ts order x)∈ts:=by rw [rd64 ts _ h3]; exact List.getElem_mem _
  rw [CV]
  refine Ev.step (fun k=>rfl) (Ev.iff_pos (by omega) (Ev.bindc hff (Ev.iff_pos (by omega) (Ev.iff_pos (by omega) (Ev.bindc (min_eq (by omega)) (Ev.bind (FB (by omega) (by omega)) ?_))))))
  rw [h2]
  refine Ev.iff_pos (by omega) (Ev.iff_pos (by omega) (Ev.iff_pos (by omega) (Ev.iff_pos (by omega) ?_)))
  refine EJ order x (I.sm V) (CI ts order x) (minJ x.fr) c h3 I.lp (by omega) (fun a ha=>by have:=V.af _ h3 a ha; omega) (haf _ hx) (ts.length:Int) (A:=Bd ts x (CI ts order x)) (I'.sm V) ?_ (Af ts (CI ts order x)).length 0 _ (by omega) rfl
  rw [wsucc c (by omega)]
  exact EK V haf O d (c+1) _ I' (by omega)
def D0 (M:Nat) (ts:List S64) (order:List Int):List S47:=(CV ts order ts.length (BJ ts.length M)).s
theorem list_eq {M:Nat} {ts:List S64} {order:List Int} (V:Vt M ts) (haf:Sh ts) (O:Po ts.length order):Ev (fun k=>AX.f k (M:Int) ts order) (D0 M ts order):=by
 have hlo:=O.l
 have hm4:=V.m4
 have hn:=V.n
 unfold AX.f
 refine Ev.iff_pos (by omega) (Ev.iff_pos (by omega) (Ev.iff_pos (by omega) (Ev.iff_pos (by omega) (Ev.iff_pos (by omega) ?_))))
 rw [Int.toNat_natCast,Int.toNat_natCast,hlo]
 exact EK V haf O ts.length 0 (BJ ts.length M) (DW ts M) (by omega)
end Go.Proofs.Ytdadecjefafflaa.PAll
end
section
namespace Go.Proofs.Ytdadecjefafflaa.PAll
open Go.RowKit Go.Proofs.YtdadecjefafflaaW.PrintWords Go.Proofs.YtdadecjefafflaaW.PrintLast Go.Proofs.YtdadecjefafflaaW.PrintMore
structure Di (n:Nat) (order:List Int):Prop where
 l:order.length=n
 r:∀j:Nat,j<n→0≤rd order j∧rd order j<(n:Int)
 d:∀i j:Nat,i<j→j<n→rd order (i:Nat)≠rd order (j:Nat)
theorem Dc (n i:Nat):Pd (List.replicate n false) i=false:=by
 unfold Pd rdOf; rw [Int.toNat_natCast]; exact C2 _ _ _
theorem Di.cover {n:Nat} {order:List Int} (D:Di n order):∀i,i≤n→∃pl:List Bool,pl.length=n∧sumN (BE pl fun _=>1) n=(i:Int)∧∀q:Nat,Pd pl q=true↔∃j:Nat,j<i∧rd order j=(q:Int)
 |0,_=>⟨List.replicate n false,by simp,by
   show _=(0:Int)
   rw [←By n]
   exact Bi n fun i _=>by unfold BE; rw [Dc]; rfl,fun q=>by
   rw [Dc]; exact ⟨fun h=>absurd h (by simp),fun ⟨j,h,_⟩=>by omega⟩⟩
 | i + 1,hi=>by
  obtain ⟨pl,h1,h2,h3⟩:=D.cover i (by omega)
  obtain ⟨g1,g2⟩:=D.r i (by omega)
  obtain ⟨t,ht⟩:=Int.eq_ofNat_of_zero_le g1
  have hp:Pd pl t=false:=by
   cases hp:Pd pl t with
   |false=>rfl
   | true=>
    obtain ⟨j,hj,e⟩:=(h3 t).1 hp
    exact absurd (e.trans ht.symm) (D.d j i hj (by omega))
  refine ⟨pl.set t true,by simpa using h1,?_,fun q=> ?_⟩
  ·rw [Cm pl _ t (by omega) hp,h2,if_pos (by omega)]; omega
  ·rw [Cd pl t q (by omega)]
   by_cases e:q=t
   ·rw [if_pos e]
    exact ⟨fun _=>⟨i,by omega,by rw [ht,e]⟩,fun _=>rfl⟩
   ·rw [if_neg e,h3 q]
    constructor
    ·rintro ⟨j,hj,g⟩; exact ⟨j,by omega,g⟩
    ·rintro ⟨j,hj,g⟩
     by_cases e2:j=i
     ·rw [e2,ht] at g; omega
     ·exact ⟨j,by omega,g⟩
theorem Di.po {n:Nat} {order:List Int} (D:Di n order):Po n order:=by
 obtain ⟨pl,h1,h2,h3⟩:=D.cover n (Nat.le_refl _)
 have hall:=CQ pl n h2
 refine ⟨D.l,fun a ha=> ?_,fun i hi=> ?_⟩
 ·obtain ⟨j,hj,rfl⟩:=List.getElem_of_mem ha
  rw [←rdi _ j hj]
  exact D.r j (by rw [←D.l]; exact hj)
 ·obtain ⟨j,hj,e⟩:=(h3 i).1 (hall i hi)
  rw [←e,rdi _ j (by rw [D.l]; exact hj)]
  exact List.getElem_mem _
theorem Dd {m:Int} {ts:List S64} {order:List Int} (hl:order.length=ts.length) (hn:ts.length≤1000):∀(d i:Nat) (pl:List Bool),i+d=order.length→pl.length=ts.length→(∀q:Nat,Pd pl q=true↔∃j:Nat,j<i∧rd order j=(q:Int))→
    (∀j:Nat,j<i→0≤rd order j∧rd order j<(ts.length:Int))→(∀q j:Nat,q<j→j<i→rd order (q:Nat)≠rd order (j:Nat))→
    (Ev (fun k=>AT.l0 k order pl order (order.length:Int) (i:Int) m ts) ([],1)∧¬Di ts.length order)∨(Di ts.length order∧∀r,Ev (fun k=>AX.f k m ts order) r→Ev (fun k=>AT.l0 k order pl order (order.length:Int) (i:Int) m ts) (r,0))
  | 0,i,pl,hd,hp,h1,h2,h3=>by
    right
    refine ⟨⟨hl,fun j hj=>h2 j (by omega),fun q j h4 h5=>h3 q j h4 (by omega)⟩,fun r hr=> ?_⟩
    exact Ev.step (fun k=>rfl) (Ev.iff_neg (by omega) (Ev.bind hr (Ev.now _)))
  | d + 1, i, pl,hd,hp,h1,h2,h3=>by
    by_cases c1:rd order i<0
    · exact .inl ⟨Ev.step (fun k=>rfl) (Ev.iff_pos (by omega) (Ev.iff_pos (by omega) (Ev.iff_pos (by omega) (Ev.iff_pos c1 (Ev.now _))))),fun D=>by have:=D.r i (by omega); omega⟩
    · by_cases c2:rd order i≥(order.length:Int)
      · exact .inl ⟨Ev.step (fun k=>rfl) (Ev.iff_pos (by omega) (Ev.iff_pos (by omega) (Ev.iff_pos (by omega) (Ev.iff_neg c1 (Ev.iff_pos c2 (Ev.now _)))))),fun D=>by have:=D.r i (by omega); omega⟩
      · obtain ⟨t,ht⟩:=Int.eq_ofNat_of_zero_le (show 0≤rd order i by omega)
        have eP:rdOf false pl (rd order i)=Pd pl t:=by rw [ht]; rfl
        cases hs:Pd pl t with
        | true=>
          refine .inl ⟨Ev.step (fun k=>rfl) (Ev.iff_pos (by omega) (Ev.iff_pos (by omega) (Ev.iff_pos (by omega) (Ev.iff_neg c1 (Ev.iff_neg c2 (Ev.iff_pos (by omega) (Ev.iff_pos (by omega) (Ev.iff_pos (by rw [eP,hs]) (Ev.now _))))))))),fun D=> ?_⟩
          obtain ⟨j,hj,e⟩:=(h1 t).1 hs
          exact D.d j i hj (by omega) (e.trans ht.symm)
        | false =>
          have e1:=wsucc i (by omega)
          have e2:(rd order i).toNat=t:=by rw [ht,Int.toNat_natCast]
          have hnot:∀j:Nat,j<i→rd order j≠rd order i:=fun j hj e=>by
            have:=(h1 t).2 ⟨j,hj,by rw [e,ht]⟩
            rw [hs] at this; cases this
          have ih:=Dd (m:=m) hl hn d (i+1) (pl.set t true) (by omega) (by simpa using hp) (fun q=>by
            rw [Cd pl t q (by omega)]
            by_cases e:q=t
            · rw [if_pos e]
              exact ⟨fun _=>⟨i,by omega,by rw [ht,e]⟩,fun _=>rfl⟩
            · rw [if_neg e,h1 q]
              constructor
              · rintro ⟨j,hj,g⟩; exact ⟨j,by omega,g⟩
              · rintro ⟨j,hj,g⟩
                by_cases e2:j=i
                · rw [e2,ht] at g; omega
                · exact ⟨j,by omega,g⟩) (fun j hj=>by
            by_cases e:j=i
            · subst e; omega
            · exact h2 j (by omega)) (fun q j h4 h5=>by
            by_cases e:j=i
            · subst e; exact hnot q h4
            · exact h3 q j h4 (by omega))
          have go:∀r,Ev (fun k=>AT.l0 k order (pl.set t true) order (order.length:Int) ((i+1:Nat):Int) m ts) r→Ev (fun k=>AT.l0 k order pl order (order.length:Int) (i:Int) m ts) r:=fun r hr=>by
            refine Ev.step (fun k=>rfl) (Ev.iff_pos (by omega) (Ev.iff_pos (by omega) (Ev.iff_pos (by omega) (Ev.iff_neg c1 (Ev.iff_neg c2 (Ev.iff_pos (by omega) (Ev.iff_pos (by omega) (Ev.iff_neg (by rw [eP,hs]; simp) ?_))))))))
            rw [e1,e2]; exact hr
          rcases ih with ⟨g1,g2⟩|⟨g1,g2⟩
          · exact .inl ⟨go _ g1,g2⟩
          · exact .inr ⟨g1,fun r hr=>go _ (g2 r hr)⟩
theorem FQ {M:Nat} {ts:List S64} {order:List Int} (haf:Sh ts) (hv:BW M ts=true) (D:Di ts.length order):Ev (fun k=>AT.f k (M:Int) ts order) (D0 M ts order,0):=by
 have V:=Vt.of hv
 have hn:=V.n
 have hl:=D.l
 unfold AT.f
 refine Ev.bind (CR _ ts haf) ?_
 rw [hv]
 refine Ev.iff_pos rfl ?_
 rw [show ((order.length:Int) !=(ts.length:Int))=false by simp [hl]]
 refine Ev.step (f:=fun k=>if 0≤(order.length:Int) then (if ((order.length:Int):Int).toNat≤281474976710656 then (AT.l0 k order (List.replicate ((order.length:Int):Int).toNat false) order (order.length:Int) 0 M ts) else none) else none) (fun k=>rfl) (Ev.iff_pos (by omega) (Ev.iff_pos (by omega) ?_))
 rw [Int.toNat_natCast]
 rcases Dd (m:=(M:Int)) hl (by omega) order.length 0 (List.replicate order.length false) (by omega) (by simpa using hl) (fun q=>by rw [Dc]; exact ⟨fun h=>absurd h (by simp),fun ⟨j,h,_⟩=>by omega⟩) (fun j h=>by omega) (fun q j _ h=>by omega) with ⟨_,h⟩|⟨_,h⟩
 ·exact absurd D h
 ·exact h _ (list_eq V haf D.po)
theorem List_no {m:Int} {ts:List S64} {order:List Int} (haf:Sh ts) (h:¬(BW m ts=true∧Di ts.length order)):Ev (fun k=>AT.f k m ts order) ([],1):=by
 unfold AT.f
 refine Ev.bind (CR _ ts haf) ?_
 have stop:Ev (fun k=>AT.j0 k order true m ts) ([],1):=Ev.step (f:=fun k=>some (([]:List (S47)),1)) (fun k=>rfl) (Ev.now _)
 cases hv:BW m ts with
 |false=>exact Ev.iff_neg (by simp) stop
 | true=>
  refine Ev.iff_pos rfl ?_
  have V:=Vt.of hv
  have hn:=V.n
  by_cases hl:order.length=ts.length
  ·rw [show ((order.length:Int) !=(ts.length:Int))=false by simp [hl]]
   refine Ev.step (f:=fun k=>if 0≤(order.length:Int) then (if ((order.length:Int):Int).toNat≤281474976710656 then (AT.l0 k order (List.replicate ((order.length:Int):Int).toNat false) order (order.length:Int) 0 m ts) else none) else none) (fun k=>rfl) (Ev.iff_pos (by omega) (Ev.iff_pos (by omega) ?_))
   rw [Int.toNat_natCast]
   rcases Dd (m:=m) hl (by omega) order.length 0 (List.replicate order.length false) (by omega) (by simpa using hl) (fun q=>by rw [Dc]; exact ⟨fun h=>absurd h (by simp),fun ⟨j,h,_⟩=>by omega⟩) (fun j h=>by omega) (fun q j _ h=>by omega) with ⟨g,_⟩|⟨g,_⟩
   ·exact g
   ·exact absurd ⟨hv,g⟩ h
  ·rw [show ((order.length:Int) !=(ts.length:Int))=true by simp; omega]
   exact stop
theorem DM {M:Nat} {ts:List S64} {order:List Int} (V:Vt M ts) (O:Po ts.length order):∃x,x.s=D0 M ts order∧Inv M ts ts.length x∧(∀i,i<ts.length→Pd x.pl i=true)∧Sp ts x=totV ts∧((∀i,i<ts.length→Af ts i=[])→Free M (Bw M ts) ts x):=by
 have hM:0<M:=by have:=V.m1; omega
 have I:=Es V O hM ts.length 0 (BJ ts.length M) (DW ts M) (by omega)
 have hall:=CQ _ _ I.cnt
 refine ⟨_,rfl,I,hall,?_,fun hA=>Dl V O (FJ V) hA ts.length 0 _ (DW ts M) (Ef ts M _) (by omega)⟩
 exact Bi _ fun i hi=>by unfold BE; rw [hall i hi]; rfl
theorem F4 {M:Nat} {ts:List S64} {order:List Int} (hv:BW M ts=true) (O:Po ts.length order):Bh M ts (D0 M ts order)=0:=by
 have V:=Vt.of hv
 obtain ⟨x,e,I,hall,hS,_⟩:=DM V O
 have h2:=DE V ts.length (Nat.le_refl _)
 have h3:=V.n
 unfold totV at hS
 rw [←e]
 refine Ok.check hv ⟨I.ls,fun i hi=> ?_,fun i hi=>(I.sb i hi).1,fun i k hi hk=>I.ov i k hi (by omega) (hall i hi) (hall k (by omega)) (by omega),fun i hi a ha=>(I.af i hi (hall i hi) a ha).2⟩ fun i hi=>by have:=I.sb i hi; omega
 obtain ⟨j,h1,h2,_⟩:=I.ma i hi (hall i hi)
 rw [h2]; omega
theorem Ec {M:Nat} {ts:List S64} {order:List Int} (V:Vt M ts) (O:Po ts.length order):lenV ts (D0 M ts order)≤totV ts∧(M=1→lenV ts (D0 M ts order)=totV ts)∧((∀i,i<ts.length→Af ts i=[])→(M:Int)*lenV ts (D0 M ts order)≤(2*(M:Int)-1)*Bw M ts):=by
 obtain ⟨x,e,I,hall,hS,hF⟩:=DM V O
 have h2:=DE V ts.length (Nat.le_refl _)
 have hls:=I.ls
 rw [←e]
 have h1:lenV ts x.s≤totV ts:=CZ _ _ _ _ (by unfold totV; omega) fun i _ hi=>by
  obtain ⟨j,h1,h2,h3⟩:=I.ma i (by omega) (hall i (by omega))
  have:=I.f0 j h1
  omega
 refine ⟨h1,fun hm=> ?_,fun hA=> ?_⟩
 ·have h3:=I.one hm
  rcases I.wit 0 (by omega) with h4|⟨i,hi,_,h4⟩
  ·have:=len_nn ts x.s; omega
  ·have:=DQ I.ls hi; omega
 ·have F:=hF hA
  have hb:0≤Bw M ts:=by
   have:=(CN (BO ts) ts.length 0 0).1
   unfold Bw maxP; rw [DK]; omega
  have hm1:=V.m1; have hm4:=V.m4
  have:∀u:Int,(M:Int)*u≤(2*(M:Int)-1)*Bw M ts↔u≤((2*(M:Int)-1)*Bw M ts)/M:=fun u=>by
   rw [Int.le_ediv_iff_mul_le (by omega),Int.mul_comm]
  rw [this]
  refine CZ _ _ _ _ ?_ fun i _ hi=>(this _).1 (F.g2 i (by omega) (hall i (by omega)))
  rw [←this,Int.mul_zero]
  exact Int.mul_nonneg (by omega) hb
end Go.Proofs.Ytdadecjefafflaa.PAll
end
section
namespace Go.Proofs.Ytdadecjefafflaa.PAll
open Go.RowKit Go.Proofs.YtdadecjefafflaaW.PrintWords Go.Proofs.YtdadecjefafflaaW.PrintLast Go.Proofs.YtdadecjefafflaaW.PrintMore
theorem rd_conv (p:List S42) (i:Nat) (h:i<p.length):AN (p.map conv) i=conv (AR p i):=by
 rw [rd64 _ i (by simpa using h),rd42 p i h,List.getElem_map]
theorem Pm_conv (p:List S42) (i:Nat) (h:i<p.length):(AR p i).f1=Pm (p.map conv) i:=by
 unfold Pm; rw [rd_conv p i h]; rfl
theorem F1 {M:Nat} {p:List S42} {s:List S47} (V:Vt M (p.map conv)) (K:Ok M (p.map conv) s) (S:Sm (p.map conv) s) (hone:M=1→lenV (p.map conv) s=totV (p.map conv)):∀(d i:Nat),i+d=p.length→Ev (fun k=>culetlaw55_ScheduleOne.l0 k s (lenV (p.map conv) s) 0 (plist (p.map conv) p.length) 0 (sumN (Pm (p.map conv)) i) p (p.length:Int) (i:Int) (M:Int) p) true
 | 0,i,h=>by
  have h1:=V.m1
  have hi:i=p.length:=by omega
  refine Ev.step (fun k=>rfl) (Ev.iff_neg (by omega) (Ev.iff_pos rfl (Ev.iff_pos rfl ?_)))
  by_cases c:(M:Int)>1
  ·exact Ev.iff_pos c (Ev.now _)
  ·refine Ev.iff_neg c (Ev.const ?_)
   have:=hone (by omega)
   unfold totV at this
   rw [List.length_map] at this
   rw [hi,this,beq_self_eq_true]
 | d +1,i,h=>by
  have hn:=V.n
  have hl:=K.l
  rw [List.length_map] at hn hl
  have hi:i<p.length:=by omega
  have hi2:i<(p.map conv).length:=by simpa using hi
  have e1:rd (plist (p.map conv) p.length) (i:Int)=BO (p.map conv) i:=CW _ _ i hi
  have h1:=K.path V (i+1) i (by omega) hi2
  have h2:=DQ (ts:=p.map conv) K.l hi2
  have h3:=S.s0 i hi2
  have h4:=V.t1 i hi2
  have h5:=DE V (i+1) (by rw [List.length_map]; omega)
  rw [EV] at h1 h2
  have hpl:=Bn (p.map conv) p.length
  have e2:=Pm_conv p i hi
  have h4':1≤Pm (p.map conv) i∧Pm (p.map conv) i≤10000:=h4
  refine Ev.step (fun k=>rfl) (Ev.iff_pos (by omega) (Ev.iff_pos (by omega) (Ev.iff_pos (by omega) (Ev.iff_neg (by omega) (Ev.iff_pos (by omega) (Ev.iff_neg (by omega) (Ev.iff_pos (by omega) (Ev.iff_neg ?_ ?_))))))))
  ·rw [e2,e1,w64 (by omega) (by omega)]; omega
  ·rw [e2,wsucc i (by omega),show sumN (Pm (p.map conv)) i+Pm (p.map conv) i=sumN (Pm (p.map conv)) (i+1) from rfl,w64 (by omega) (by omega)]
   exact F1 V K S hone d (i+1) (by omega)
theorem one_j0 {m:Int} {p:List S42} {order:List Int} (hp:p.length≤42) (hF:∀x∈p,x.f3.length≤42):Ev (fun k=>culetlaw55_ScheduleOne.j0 k order false m p) true:=by
 have O:=Own_eq m p (by omega)
 have S:=sh_of p hF
 refine Ev.step (f:=fun k=>(Aj.f k m p).bind fun bt242=>((AT.f k bt242.1 bt242.2 order).bind fun bt246=>(if bt246.2=0 then ((Aj.f k m p).bind fun bt250=>((AY.f k bt250.1 bt250.2 bt246.1).bind fun bt254=>((Aj.f k m p).bind fun bt256=>((AW.f k bt256.1 bt256.2).bind fun bt260=>(if (bt246.1.length:Int)=(p.length:Int) then (culetlaw55_ScheduleOne.l0 k bt246.1 bt254.1 bt254.2 bt260.1 bt260.2 0 p (p.length:Int) 0 m p) else (some false)))))) else (some (bt246.2==1))))) (fun k=>rfl) ?_
 refine Ev.bind O ?_
 by_cases h:BW m (p.map conv)=true∧Di (p.map conv).length order
 ·obtain ⟨hv,D⟩:=h
  have V:=Vt.of hv
  obtain ⟨M,rfl⟩:=Int.eq_ofNat_of_zero_le (show 0≤m by have:=V.m1; omega)
  have hc:=F4 hv D.po
  have K:=Ok.of hc
  have hl:=K.l
  rw [List.length_map] at hl
  obtain ⟨g1,g2,g3,_⟩:=Cc hc
  refine Ev.bind (FQ S hv D) (Ev.iff_pos rfl (Ev.bind O (Ev.bind (Ed _ _ _ S) (Ev.bind O (Ev.bind (Ex _ _ S) ?_)))))
  rw [hc,hv,if_pos rfl]
  refine Ev.iff_pos (by simp only; omega) ?_
  have:=F1 V K (Sm.of V g2 g3) (Ec V D.po).2.1 p.length 0 (by omega)
  rw [List.length_map]
  exact this
 ·exact Ev.bind (List_no S h) (Ev.iff_neg (by simp) (Ev.now _))
theorem one_law (m:Int) (p:List S42) (order:List Int):∃k,culetlaw55_ScheduleOne.f k m p order=some true:=by
 have stop:Ev (fun k=>culetlaw55_ScheduleOne.j0 k order true m p) true:=
  Ev.step (f:=fun k=>(Au.f k).bind fun t=>(some t)) (fun k=>rfl) (Ev.bind E0 (Ev.now _))
 refine Ev.rounds (g:=fun k=>culetlaw55_ScheduleOne.f k m p order) (Ev.bind E0 (Ev.iff_pos rfl ?_))
 obtain ⟨b,hb,hb2⟩:=few_eq m p
 refine Ev.bind hb ?_
 cases b with
 |false=>exact Ev.iff_neg (by simp) stop
 | true=>
  refine Ev.iff_pos rfl ?_
  obtain ⟨hp,hF⟩:=hb2 rfl
  by_cases hl:(order.length:Int)>45
  ·rw [decide_eq_true hl]; exact stop
  ·rw [decide_eq_false hl]; exact one_j0 hp hF
end Go.Proofs.Ytdadecjefafflaa.PAll
end
