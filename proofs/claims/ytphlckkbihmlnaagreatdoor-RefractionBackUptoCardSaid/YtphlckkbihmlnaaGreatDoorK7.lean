/- A part of what the law's proof leans on. PACKED BY pack.py of this repo. -/
import Derived.Test.YtphlckkbihmlnaaGreatDoorK6
set_option linter.unusedVariables false
set_option linter.unusedSimpArgs false
set_option linter.unusedSectionVars false
set_option linter.defProp false
set_option maxRecDepth 100000
open Go.IntKind (i64 u64 u32)
section
namespace Go.Proofs.YtphlckkbihmlnaaGreatDoor.G
open Go Go.Proofs RX
abbrev rdigit.c3 (o lw:Nat) (us:List Int):=Ew BinOp.or u64 (u64.wrap (u64.wrap (us.getD (o+(((lw:Nat):Int)).toNat*1) 0)*2^min (Int.toNat 32) u64.bits)) (u64.wrap (us.getD (o+(i64.wrap (((lw:Nat):Int)-1)).toNat*1) 0))
abbrev rdigit.c4 (ov lw:Nat) (ws:List Int):=ws.getD (ov+(i64.wrap (((lw:Nat):Int)-1)).toNat*1) 0
abbrev rdigit.c0 (o ov lw:Nat) (us ws:List Int):=qa2 us o ws ov lw 2 (u64.wrap ((rdigit.c3 o lw us).tdiv (u64.wrap (rdigit.c4 ov lw ws)))) ((rdigit.c3 o lw us).tmod (u64.wrap (rdigit.c4 ov lw ws)))
abbrev rdigit.c5 (o ov lw:Nat) (us ws:List Int):=ip us o lw (qd us o ws ov (rdigit.c0 o ov lw us ws) lw)
abbrev rdigit.c1 (o ov lw:Nat) (us ws:List Int):=u32.wrap (u32.wrap ((rdigit.c5 o ov lw us ws).getD (o+(((lw:Nat):Int)).toNat*1) 0-u32.wrap (qc ws ov (rdigit.c0 o ov lw us ws) lw))- -(qd us o ws ov (rdigit.c0 o ov lw us ws) lw/pw lw+qc ws ov (rdigit.c0 o ov lw us ws) lw))
abbrev rdigit.c2 (o ov lw:Nat) (us ws:List Int):=ip ((rdigit.c5 o ov lw us ws).set (o+(((lw:Nat):Int)).toNat*1) (rdigit.c1 o ov lw us ws)) o lw (qd ((rdigit.c5 o ov lw us ws).set (o+(((lw:Nat):Int)).toNat*1) (rdigit.c1 o ov lw us ws)) o ws ov (-1) lw)
theorem rdigit.run (o lu cu ov lw cw:Nat) (us ws:List Int):xfn Tryz.prog ⟨[],[(137,Tryz.f137),(136,Tryz.f136)],[]⟩ [(0,dg0.t),(2,dg1.t),(4,dg2.t)] 10 Tryz.f143 [.slice (some ⟨0,o,none⟩) lu cu,.slice (some ⟨1,ov,none⟩) lw cw] [.is .u32 us 144,.is .u32 ws 144]=
 bif decide (0≤((lw:Nat):Int))&&decide (((lw:Nat):Int)<((lu:Nat):Int)) then bif (o+(((lw:Nat):Int)).toNat*1).blt us.length then bif decide (0≤i64.wrap (((lw:Nat):Int)-1))&&decide (i64.wrap (((lw:Nat):Int)-1)<((lu:Nat):Int)) then bif (o+(i64.wrap (((lw:Nat):Int)-1)).toNat*1).blt us.length then bif decide (0≤i64.wrap (((lw:Nat):Int)-1))&&decide (i64.wrap (((lw:Nat):Int)-1)<((lw:Nat):Int)) then bif (ov+(i64.wrap (((lw:Nat):Int)-1)).toNat*1).blt ws.length then bif u64.wrap (rdigit.c4 ov lw ws) !=0 then bif decide (0≤i64.wrap (((lw:Nat):Int)-1))&&decide (i64.wrap (((lw:Nat):Int)-1)<((lw:Nat):Int)) then bif (ov+(i64.wrap (((lw:Nat):Int)-1)).toNat*1).blt ws.length then bif u64.wrap (rdigit.c4 ov lw ws) !=0 then bif dg0.ok o lu ov lw (((lw:Nat):Int)) (u64.wrap ((rdigit.c3 o lw us).tdiv (u64.wrap (rdigit.c4 ov lw ws)))) ((rdigit.c3 o lw us).tmod (u64.wrap (rdigit.c4 ov lw ws))) us ws then bif dg1.ok o lu ov lw (rdigit.c0 o ov lw us ws) 0 0 (((lw:Nat):Int)) 0 us ws then bif decide (0≤((lw:Nat):Int))&&decide (((lw:Nat):Int)<((lu:Nat):Int)) then bif (o+(((lw:Nat):Int)).toNat*1).blt (rdigit.c5 o ov lw us ws).length then bif decide (0≤((lw:Nat):Int))&&decide (((lw:Nat):Int)<((lu:Nat):Int)) then bif (o+(((lw:Nat):Int)).toNat*1).blt (rdigit.c5 o ov lw us ws).length then bif (Ew BinOp.or u32 (Ew BinOp.and u32 (Ew BinOp.xor u32 (if u32.signed=true then -1 else u32.max) ((rdigit.c5 o ov lw us ws).getD (o+(((lw:Nat):Int)).toNat*1) 0)) (u32.wrap (qc ws ov (rdigit.c0 o ov lw us ws) lw))) (Ew BinOp.and u32 (Ew BinOp.xor u32 (if u32.signed=true then -1 else u32.max) (Ew BinOp.xor u32 ((rdigit.c5 o ov lw us ws).getD (o+(((lw:Nat):Int)).toNat*1) 0) (u32.wrap (qc ws ov (rdigit.c0 o ov lw us ws) lw)))) (rdigit.c1 o ov lw us ws))).fdiv (2^min (Int.toNat 31) u32.bits) !=0 then bif dg2.ok o lu ov lw 0 (((lw:Nat):Int)) 0 ((rdigit.c5 o ov lw us ws).set (o+(((lw:Nat):Int)).toNat*1) (rdigit.c1 o ov lw us ws)) ws then bif decide (0≤((lw:Nat):Int))&&decide (((lw:Nat):Int)<((lu:Nat):Int)) then bif (o+(((lw:Nat):Int)).toNat*1).blt (rdigit.c2 o ov lw us ws).length then bif decide (0≤((lw:Nat):Int))&&decide (((lw:Nat):Int)<((lu:Nat):Int)) then bif (o+(((lw:Nat):Int)).toNat*1).blt (rdigit.c2 o ov lw us ws).length then some ((Value.int u32 (u32.wrap (u64.wrap (qa2 us o ws ov lw 2 (u64.wrap ((rdigit.c3 o lw us).tdiv (u64.wrap (rdigit.c4 ov lw ws)))) ((rdigit.c3 o lw us).tmod (u64.wrap (rdigit.c4 ov lw ws)))-1))),[Blk.is u32 ((rdigit.c2 o ov lw us ws).set (o+(((lw:Nat):Int)).toNat*1) (u32.wrap ((rdigit.c2 o ov lw us ws).getD (o+(((lw:Nat):Int)).toNat*1) 0+qd ((rdigit.c5 o ov lw us ws).set (o+(((lw:Nat):Int)).toNat*1) (rdigit.c1 o ov lw us ws)) o ws ov (-1) lw/pw lw))) 144,Blk.is u32 ws 144]))
 else none else none else none else none else none else some ((Value.int u32 (u32.wrap (rdigit.c0 o ov lw us ws)),[Blk.is u32 ((rdigit.c5 o ov lw us ws).set (o+(((lw:Nat):Int)).toNat*1) (rdigit.c1 o ov lw us ws)) 144,Blk.is u32 ws 144])) else none else none else none else none else none else none else none else none else none else none else none else none else none else none else none else none:=by kernel_rfl
def rdigit.run0:=fun o lu cu ov lw cw us ws h0 h1 h2 h3 h4 h5 h6 h7 h8 h9 h10 h11 h12 h13 h14 h15 h16 h17 h18 h19 h20 h21=>(((((((((((((((((((((((rdigit.run o lu cu ov lw cw us ws).ct h0).ct h1).ct h2).ct h3).ct h4).ct h5).ct h6).ct h7).ct h8).ct h9).ct h10).ct h11).ct h12).ct h13).ct h14).ct h15).ct h16).ct h17).ct h18).ct h19).ct h20).ct h21)
def rdigit.run1:=fun o lu cu ov lw cw us ws h0 h1 h2 h3 h4 h5 h6 h7 h8 h9 h10 h11 h12 h13 h14 h15 h16=>((((((((((((((((((rdigit.run o lu cu ov lw cw us ws).ct h0).ct h1).ct h2).ct h3).ct h4).ct h5).ct h6).ct h7).ct h8).ct h9).ct h10).ct h11).ct h12).ct h13).ct h14).ct h15).cf h16)
theorem R3 {xs:List Int} {o l:Nat} (hl:2≤l) (h:o+l≤xs.length):nv (seg xs o l)=(xs.getD (o+(l-1)) 0*4294967296+xs.getD (o+(l-2)) 0)*pw (l-2)+nv (seg xs o (l-2)):=by
 obtain ⟨m,rfl⟩:∃m,l=m+2:=⟨l-2,by omega⟩
 rw [show m+2-1=m+1 by omega,show m+2-2=m by omega,Fu (show o+(m+1)<xs.length by omega),Fu (show o+m<xs.length by omega),GS,Int.add_mul,Int.mul_comm 4294967296,Int.mul_assoc (pw m),Int.mul_comm (pw m),Int.mul_comm (pw m),Int.mul_comm 4294967296]
 omega
theorem QF {us ws:List Int} {o ov lw:Nat} (hx:dig us) (hy:dig ws) (hn:2≤lw) (h1:o+(lw+1)≤us.length) (h2:ov+lw≤ws.length) (hv:2147483648≤ws.getD (ov+(lw-1)) 0) (hlt:nv (seg us o (lw+1))<nv (seg ws ov lw)*4294967296):
  let T:=us.getD (o+(lw-1)) 0+4294967296*us.getD (o+lw) 0
  let v1:=ws.getD (ov+(lw-1)) 0
  let q:=qa2 us o ws ov lw 2 (T/v1) (T%v1)
  nv (seg us o (lw+1))/nv (seg ws ov lw)≤q∧q≤nv (seg us o (lw+1))/nv (seg ws ov lw)+1∧0≤q∧q<4294967296∧T/v1≤4294967297:=by
 intro T v1 q
 have V1:=Fj hy (ov+(lw-1))
 have V2:=Fj hy (ov+(lw-2))
 have U2:=Fj hx (o+(lw-2))
 have U1:=Fj hx (o+(lw-1))
 have U0:=Fj hx (o+lw)
 have a:=El (Fg hx o (lw-2))
 have b:=Gz (Fg hx o (lw-2))
 rw [Fh (by omega)] at b
 have a':=El (Fg hy ov (lw-2))
 have b':=Gz (Fg hy ov (lw-2))
 rw [Fh (by omega)] at b'
 have eV:=R3 hn h2
 have eU:nv (seg us o (lw+1))=(T*4294967296+us.getD (o+(lw-2)) 0)*pw (lw-2)+nv (seg us o (lw-2)):=by
  rw [Fu (show o+lw<us.length by omega),R3 hn (by omega)]
  obtain ⟨m,rfl⟩:∃m,lw=m+2:=⟨lw-2,by omega⟩
  rw [show m+2-2=m by omega] at*
  show _=((us.getD (o+(m+2-1)) 0+4294967296*us.getD (o+(m+2)) 0)*4294967296+us.getD (o+m) 0)*pw m+nv (seg us o m)
  have e:pw (m+2)*us.getD (o+(m+2)) 0=(4294967296*us.getD (o+(m+2)) 0)*4294967296*pw m:=by
   rw [show pw (m+2)=4294967296*(4294967296*pw m) by rw [show m+2=m+1+1 from rfl,GS,GS]]
   generalize us.getD (o+(m+2)) 0=z
   generalize pw m=p
   rw [Int.mul_assoc 4294967296,Int.mul_assoc 4294967296 p,Int.mul_assoc 4294967296 z,Int.mul_comm z,Int.mul_assoc 4294967296,Int.mul_assoc 4294967296 z,Int.mul_comm z]
  rw [e,Int.add_mul (us.getD (o+(m+2-1)) 0),Int.add_mul (us.getD (o+(m+2-1)) 0*4294967296),Int.add_mul (us.getD (o+(m+2-1)) 0*4294967296+4294967296*us.getD (o+(m+2)) 0*4294967296),Int.add_mul (us.getD (o+(m+2-1)) 0*4294967296)]
  omega
 exact knuth (Gd _) hv V1.2 V2.1 V2.2 U2.1 U2.2 eV a' b' eU a b (by omega) hlt
theorem Hm {P:Program} {N:Nat→Prop} {fn:Func} {b:Code} {L:List (Nat×LSpec)} (hb:fn.body=some b) (h:LsOkn P N L b):∀c,fn.body=some c→LsOkn P N L c:=fun c hc=>by
 rw [hb] at hc
 injection hc with hc
 subst hc
 exact h
def digit.sp:HSpec
 |[.slice (some ⟨0,o,none⟩) lu cu,.slice (some ⟨1,ov,none⟩) lw cw],[.is .u32 us 144,.is .u32 ws 144]=>some (Nat.beq lu (lw+1)&&(Nat.ble 2 lw&&(Du o lu us&&(Du ov lw ws&&(decide (2147483648≤ws.getD (ov+(lw-1)) 0)&&decide (nv (seg us o (lw+1))<nv (seg ws ov lw)*4294967296))))),.int .u32 (nv (seg us o (lw+1))/nv (seg ws ov lw)),[.is .u32 (ip us o (lw+1) (nv (seg us o (lw+1))%nv (seg ws ov lw))) 144,.is .u32 ws 144])
 |_,_=>none
theorem JT.ok:SOK Tryz.prog 143 digit.sp:=by
 refine Cu (E:=⟨[],[(137,Tryz.f137),(136,Tryz.f136)],[]⟩) (L:=[(0,dg0.t),(2,dg1.t),(4,dg2.t)]) ⟨Ac,Fl ⟨Tryz.func137,by decide,rfl⟩ (Fl ⟨Tryz.func136,by decide,rfl⟩ Ai),Ad,Ah⟩ 10 Tryz.func143 (by decide) rfl (Hm rfl (Fv rfl dg0.lok (Fv rfl dg1.lok (Fv rfl dg2.lok Be)))) fun vs bl v bl' h=> ?_
 unfold digit.sp at h
 split at h
 ·rename_i o lu cu ov lw cw us ws
  simp only [zS,zP,zB,Nat.ble_eq,zD,Eo] at h
  obtain ⟨⟨hlu,hn,⟨h1,h1b,hx⟩,⟨h2,h2b,hy⟩,hv,hlt⟩,rfl,rfl⟩:=h
  obtain rfl:=zE hlu
  have V1:=Fj hy (ov+(lw-1))
  have U1:=Fj hx (o+(lw-1))
  have U0:=Fj hx (o+lw)
  obtain ⟨g1,g2,g3,g4,g5⟩:=QF hx hy hn h1 h2 hv hlt
  have w1:i64.wrap ((lw:Int)-1)=((lw-1:Nat):Int):=by rw [w64 (by omega) (by omega)]; omega
  have eT:Ew BinOp.or u64 (u64.wrap (u64.wrap (us.getD (o+lw) 0)*2^min (Int.toNat 32) u64.bits)) (u64.wrap (us.getD (o+(lw-1)) 0))=us.getD (o+(lw-1)) 0+4294967296*us.getD (o+lw) 0:=by
   rw [u64of (n:=us.getD (o+lw) 0) U0.1 (by omega)]; exact PI U1.1 U1.2 U0.1 U0.2
  have eV:u64.wrap (ws.getD (ov+(lw-1)) 0)=ws.getD (ov+(lw-1)) 0:=u64of V1.1 (by omega)
  have n1:=rdigit.run0 o (lw+1) cu ov lw cw us ws
  have n0:=rdigit.run1 o (lw+1) cu ov lw cw us ws
  simp only [rdigit.c0,rdigit.c1,rdigit.c2,rdigit.c3,rdigit.c4,rdigit.c5,w1,Int.toNat_natCast,Nat.mul_one,eT,eV] at n0 n1
  clear eT eV
  generalize hT:us.getD (o+(lw-1)) 0+4294967296*us.getD (o+lw) 0=T at*
  have T0:0≤T:=by omega
  have T1:T<18446744073709551616:=by omega
  generalize hv1:ws.getD (ov+(lw-1)) 0=v1 at*
  have d0:0≤T/v1:=Int.ediv_nonneg T0 (by omega)
  have d1:T/v1≤T:=Int.ediv_le_self _ T0
  have r0:=Int.emod_nonneg T (show v1≠0 by omega)
  have r1:=Int.emod_lt_of_pos T (show 0<v1 by omega)
  have eD:T.tdiv v1=T/v1:=Int.tdiv_eq_ediv_of_nonneg T0
  have eM:T.tmod v1=T%v1:=Int.tmod_eq_emod_of_nonneg T0
  have eW:u64.wrap (T/v1)=T/v1:=u64of d0 (by omega)
  simp only [eD,eM,eW] at n0 n1
  generalize hq:qa2 us o ws ov lw 2 (T/v1) (T%v1)=q at*
  have hC:=Si hy g3 h2
  have hB:=Sh hx hy q (show o+lw≤us.length by omega) h2
  have hlen:=IP (qd us o ws ov q lw) (show o+lw≤us.length by omega)
  have hg:(ip us o lw (qd us o ws ov q lw)).getD (o+lw) 0=us.getD (o+lw) 0:=Ll _ (by omega) (Nat.le_refl _)
  have eC:u32.wrap (qc ws ov q lw)=qc ws ov q lw:=u32of hC.1 (by omega)
  simp only [hg,eC] at n0 n1
  have eB:=borrow U0.1 U0.2 hC.1 (show qc ws ov q lw<4294967296 by omega) (b:= -(qd us o ws ov q lw/pw lw+qc ws ov q lw)) (by omega) (by omega)
  simp only [eB] at n0 n1
  have eS:u32.wrap (u32.wrap (us.getD (o+lw) 0-qc ws ov q lw)- -(qd us o ws ov q lw/pw lw+qc ws ov q lw))=(qd us o ws ov q lw/pw lw+us.getD (o+lw) 0)%4294967296:=by rw [MD]; congr 1; omega
  have hDU:qd us o ws ov q lw+pw lw*us.getD (o+lw) 0=nv (seg us o (lw+1))-q*nv (seg ws ov lw):=by rw [Fu (show o+lw<us.length by omega)]; unfold qd; omega
  have eI:=N8 (show o+lw<us.length by omega) (qd us o ws ov q lw) (us.getD (o+lw) 0)
  have eN: -((us.getD (o+lw) 0-qc ws ov q lw- -(qd us o ws ov q lw/pw lw+qc ws ov q lw))/4294967296)= -((nv (seg us o (lw+1))-q*nv (seg ws ov lw))/pw (lw+1)):=by rw [←hDU,H1]; congr 2; omega
  simp only [eS,eI,hDU,eN] at n0 n1
  have c1:=dtrue2 (p:=0≤(lw:Int)) (q:=(lw:Int)<((lw+1:Nat):Int)) (by omega) (by omega)
  have c2:=dtrue2 (p:=0≤((lw-1:Nat):Int)) (q:=((lw-1:Nat):Int)<((lw+1:Nat):Int)) (by omega) (by omega)
  have c3:=dtrue2 (p:=0≤((lw-1:Nat):Int)) (q:=((lw-1:Nat):Int)<(lw:Int)) (by omega) (by omega)
  have b1:(o+lw).blt us.length=true:=Fi (by omega)
  have b2:(o+(lw-1)).blt us.length=true:=Fi (by omega)
  have b3:(ov+(lw-1)).blt ws.length=true:=Fi (by omega)
  have b4:(o+lw).blt (ip us o lw (qd us o ws ov q lw)).length=true:=by rw [hlen]; exact b1
  have nz:(v1 !=0)=true:=Em (by omega)
  have k0:dg0.ok o (lw+1) ov lw (lw:Int) (T/v1) (T%v1) us ws=true:=by
   simp only [dg0.ok,zB,Nat.ble_eq,zD,Eo,hv1]
   exact ⟨trivial,hn,Nat.le_refl _,⟨h1,h1b,hx⟩,⟨h2,h2b,hy⟩,hv,d0,g5,r0,by omega⟩
  have k1:dg1.ok o (lw+1) ov lw q 0 0 (lw:Int) 0 us ws=true:=by
   simp only [dg1.ok,zB,Nat.ble_eq,zD,Eo]
   exact ⟨trivial,trivial,trivial,trivial,g3,g4,by omega,⟨h1,h1b,hx⟩,⟨h2,h2b,hy⟩⟩
  replace n0:=n0 c1 b1 c2 b2 c3 b3 nz c3 b3 nz k0 k1 c1 b4 c1 b4
  replace n1:=n1 c1 b1 c2 b2 c3 b3 nz c3 b3 nz k0 k1 c1 b4 c1 b4
  clear eB eS eI eN hDU hg hlen k0 k1 eD eM eW hC hB eC
  have W0:=El (Fg hy ov lw)
  have W1:=El (Fg hx o (lw+1))
  have W2:=Gz (Fg hx o (lw+1))
  rw [Fh h1] at W2
  generalize hU:nv (seg us o (lw+1))=U at*
  generalize hV:nv (seg ws ov lw)=V at*
  have Vp:0<V:=by omega
  have hp:=Gd (lw+1)
  have hsp:V*(U/V)+U%V=U:=Int.mul_ediv_add_emod U V
  have qv0:0≤q*V:=Int.mul_nonneg g3 W0
  by_cases hc:q*V≤U
  ·have e1:q=U/V:=Int.le_antisymm ((Int.le_ediv_iff_mul_le Vp).2 hc) g1
   have e2:(U-q*V)/pw (lw+1)=0:=Int.ediv_eq_zero_of_lt (by omega) (by omega)
   have e3:U-q*V=U%V:=by rw [e1,Int.mul_comm]; omega
   have e4:u32.wrap q=q:=u32of g3 g4
   rw [e2,e3,e4] at n0
   refine ⟨(n0 rfl).trans ?_,by simp [okV,Nat.blt],clo_spec 8 _ rfl,Ay rfl⟩
   rw [e1]
  ·have e1:q=U/V+1:=by
    refine Int.le_antisymm g2 (Int.lt_of_not_ge fun hz=>hc ?_)
    have:q*V≤(U/V)*V:=Int.mul_le_mul_of_nonneg_right hz W0
    have:=Int.emod_nonneg U (show V≠0 by omega)
    rw [Int.mul_comm V] at hsp
    omega
   have e2:(U-q*V)/pw (lw+1)<0:=Int.ediv_neg_of_neg_of_pos (by omega) hp
   have e3:U-q*V+V=U%V:=by
    have:q*V=V*(U/V)+V:=by rw [e1,Int.add_mul,Int.one_mul,Int.mul_comm]
    omega
   have q1:1≤q:=by
    have:=Int.ediv_nonneg W1 W0
    omega
   have e4:u32.wrap (u64.wrap (q-1))=q-1:=by rw [u64of (by omega) (by omega),u32of (by omega) (by omega)]
   have hz:=dig_ip hx o (lw+1) (U-q*V)
   have hl1:(ip us o (lw+1) (U-q*V)).length=us.length:=IP _ h1
   have k2:dg2.ok o (lw+1) ov lw 0 (lw:Int) 0 (ip us o (lw+1) (U-q*V)) ws=true:=by
    simp only [dg2.ok,zB,Nat.ble_eq,zD,Eo]
    exact ⟨trivial,trivial,trivial,by omega,⟨by omega,h1b,hz⟩,⟨h2,h2b,hy⟩⟩
   have hsg:seg (ip us o (lw+1) (U-q*V)) o (lw+1)=dg (lw+1) (U-q*V):=seg_ip _ h1
   have hnv:nv (seg (ip us o (lw+1) (U-q*V)) o (lw+1))=(U-q*V)%pw (lw+1):=by rw [hsg,Rd]
   have hii:=ip_ip (us:=us) (o:=o) (k:=lw+1) (U-q*V) ((U-q*V)%pw (lw+1)+V) h1
   generalize hu1:ip us o (lw+1) (U-q*V)=u1 at*
   have hget:(ip u1 o lw (qd u1 o ws ov (-1) lw)).getD (o+lw) 0=u1.getD (o+lw) 0:=Ll _ (by omega) (Nat.le_refl _)
   have hl2:=IP (qd u1 o ws ov (-1) lw) (show o+lw≤u1.length by omega)
   have b5:(o+lw).blt (ip u1 o lw (qd u1 o ws ov (-1) lw)).length=true:=by rw [hl2]; exact Fi (by omega)
   have es:qd u1 o ws ov (-1) lw+pw lw*u1.getD (o+lw) 0=(U-q*V)%pw (lw+1)+V:=by
    rw [←hnv,Fu (show o+lw<u1.length by omega)]; unfold qd; rw [hV]; omega
   have eI:=N8 (us:=u1) (show o+lw<u1.length by omega) (qd u1 o ws ov (-1) lw) (u1.getD (o+lw) 0)
   replace n1:=n1 (Em (by omega)) k2 c1 b5 c1 b5
   rw [hget,Int.add_comm (u1.getD (o+lw) 0),wu32 (_+u1.getD (o+lw) 0),eI,es,hii,e4] at n1
   have hdd:ip us o (lw+1) ((U-q*V)%pw (lw+1)+V)=ip us o (lw+1) (U%V):=by
    have hm:=Int.emod_add_mul_ediv (U-q*V) (pw (lw+1))
    have hd:=Kd (lw+1) ((U-q*V)%pw (lw+1)+V) ((U-q*V)/pw (lw+1))
    rw [show (U-q*V)%pw (lw+1)+V+pw (lw+1)*((U-q*V)/pw (lw+1))=U%V by omega] at hd
    unfold ip
    rw [hd]
   rw [hdd] at n1
   refine ⟨n1.trans ?_,by simp [okV,Nat.blt],clo_spec 8 _ rfl,Ay rfl⟩
   rw [show q-1=U/V by omega]
 ·cases h
def len8:ByteArray:=⟨((List.range 256).map fun i=>UInt8.ofNat (match i with|0=>0|j+1=>(j+1).log2+1)).toArray⟩
theorem rlz.run (x_:Int):xfn Tryz.prog ⟨[],[(147,Tryz.f147)],[]⟩ [] 10 Tryz.f141 [.int .u32 x_] []=
 bif decide (x_≥65536) then bif decide (x_.fdiv (2^min (Int.toNat 16) u32.bits)≥256) then bif decide (0≤IntKind.u8.wrap ((x_.fdiv (2^min (Int.toNat 16) u32.bits)).fdiv (2^min (Int.toNat 8) u32.bits)))&&decide (IntKind.u8.wrap ((x_.fdiv (2^min (Int.toNat 16) u32.bits)).fdiv (2^min (Int.toNat 8) u32.bits))<((len8.size:Nat):Int)) then some ((Value.int i64 (i64.wrap (32-i64.wrap (i64.wrap (24)+i64.wrap (((len8.data.toList.getD (IntKind.u8.wrap ((x_.fdiv (2^min (Int.toNat 16) u32.bits)).fdiv (2^min (Int.toNat 8) u32.bits))).toNat 0).toNat:Nat):Int)))),[])) else none else bif decide (0≤IntKind.u8.wrap (x_.fdiv (2^min (Int.toNat 16) u32.bits)))&&decide (IntKind.u8.wrap (x_.fdiv (2^min (Int.toNat 16) u32.bits))<((len8.size:Nat):Int)) then some ((Value.int i64 (i64.wrap (32-i64.wrap (16+i64.wrap (((len8.data.toList.getD (IntKind.u8.wrap (x_.fdiv (2^min (Int.toNat 16) u32.bits))).toNat 0).toNat:Nat):Int)))),[])) else none else bif decide (x_≥256) then bif decide (0≤IntKind.u8.wrap (x_.fdiv (2^min (Int.toNat 8) u32.bits)))&&decide (IntKind.u8.wrap (x_.fdiv (2^min (Int.toNat 8) u32.bits))<((len8.size:Nat):Int)) then some ((Value.int i64 (i64.wrap (32-i64.wrap (i64.wrap (8)+i64.wrap (((len8.data.toList.getD (IntKind.u8.wrap (x_.fdiv (2^min (Int.toNat 8) u32.bits))).toNat 0).toNat:Nat):Int)))),[])) else none else bif decide (0≤IntKind.u8.wrap x_)&&decide (IntKind.u8.wrap x_<((len8.size:Nat):Int)) then some ((Value.int i64 (i64.wrap (32-i64.wrap (0+i64.wrap (((len8.data.toList.getD (IntKind.u8.wrap x_).toNat 0).toNat:Nat):Int)))),[])) else none:=by kernel_rfl
def rlz.run0:=fun x_ h0 h1 h2=>((((rlz.run x_).ct h0).ct h1).ct h2)
def rlz.run1:=fun x_ h0 h1 h2=>((((rlz.run x_).ct h0).cf h1).ct h2)
def rlz.run2:=fun x_ h0 h1 h2=>((((rlz.run x_).cf h0).ct h1).ct h2)
def rlz.run3:=fun x_ h0 h1 h2=>((((rlz.run x_).cf h0).cf h1).ct h2)
theorem K5:len8.size=256:=by decide+kernel
theorem Sy:((List.range 256).all fun i=>Nat.beq i 0||Nat.beq (len8.data.toList.getD i 0).toNat (i.log2+1))=true:=by decide+kernel
theorem L4 {i:Nat} (h:i<256) (h0:i≠0):(len8.data.toList.getD i 0).toNat=i.log2+1:=by
 have:=List.all_eq_true.1 Sy i (List.mem_range.2 h)
 rw [Bool.or_eq_true] at this
 rcases this with h1|h1
 ·exact absurd (zE h1) h0
 ·exact zE h1
theorem KX {n k:Nat} (h:n/2^k≠0):n.log2=(n/2^k).log2+k:=by
 have hp:=Nat.two_pow_pos k
 have hn:n≠0:=fun e=>h (by rw [e,Nat.zero_div])
 obtain ⟨h1,h2⟩:=(Nat.log2_eq_iff h).1 rfl
 refine (Nat.log2_eq_iff hn).2 ⟨?_,?_⟩
 ·rw [Nat.pow_add]; exact (Nat.le_div_iff_mul_le hp).1 h1
 ·rw [show (n/2^k).log2+k+1=((n/2^k).log2+1)+k by omega,Nat.pow_add]; exact (Nat.div_lt_iff_lt_mul hp).1 h2
def clz (x:Int):Int:=31-((x.toNat.log2:Nat):Int)
theorem TW {x:Int} (h0:0<x) (h1:x<4294967296):0≤clz x∧clz x≤31∧2147483648≤x*p2 (clz x).toNat∧x*p2 (clz x).toNat<4294967296:=by
 obtain ⟨n,rfl⟩:∃n:Nat,x=n:=⟨x.toNat,by omega⟩
 obtain ⟨a,b⟩:=(Nat.log2_eq_iff (show n≠0 by omega)).1 rfl
 have hl:n.log2≤31:=by
  refine Nat.le_of_lt_succ (Nat.lt_of_not_le fun hz=> ?_)
  have:=Nat.pow_le_pow_right (show 0<2 by decide) hz
  have:(2:Nat)^(32:Nat)=4294967296:=by decide
  omega
 unfold clz
 rw [Int.toNat_natCast]
 have e:((31:Int)-((n.log2:Nat):Int)).toNat=31-n.log2:=by omega
 rw [e]
 refine ⟨by omega,by omega,?_,?_⟩
 ·have h2:=Nat.mul_le_mul_right (2^(31-n.log2)) a
  rw [←Nat.pow_add,show n.log2+(31-n.log2)=31 by omega] at h2
  simp only [p2]
  rw [←Int.natCast_mul]
  have:(2:Nat)^(31:Nat)=2147483648:=by decide
  omega
 ·have h2:=Nat.mul_lt_mul_of_pos_right b (Nat.two_pow_pos (31-n.log2))
  rw [←Nat.pow_add,show n.log2+1+(31-n.log2)=32 by omega] at h2
  simp only [p2]
  rw [←Int.natCast_mul]
  have:(2:Nat)^(32:Nat)=4294967296:=by decide
  omega
theorem MB {m:Nat} (h:m<256):IntKind.u8.wrap (m:Int)=(m:Int):=by rw [wu8]; exact Int.emod_eq_of_lt (by omega) (by omega)
theorem OU (n:Nat) (d:Int) (hd:0≤d):(n:Int).fdiv d=(((n/d.toNat:Nat)):Int):=by
 rw [Int.fdiv_eq_ediv_of_nonneg _ hd]
 obtain ⟨m,rfl⟩:∃m:Nat,d=m:=⟨d.toNat,by omega⟩
 rw [Int.toNat_natCast]; rfl
def lz.sp:HSpec
 |[.int .u32 x],[]=>some (decide (0<x)&&decide (x<4294967296),.int .i64 (clz x),[])
 |_,_=>none
theorem lz.ok:SOK Tryz.prog 141 lz.sp:=by
  refine Cu (E:=⟨[],[(147,Tryz.f147)],[]⟩) (L:=[]) ⟨Ac,Fl ⟨Tryz.func147,by decide,rfl⟩ Ai,Ad,Ah⟩ 10 Tryz.func141 (by decide) rfl Bv fun vs bl v bl' h=> ?_
  unfold lz.sp at h
  split at h
  · rename_i x
    simp only [zS,zP,zB,zD] at h
    obtain ⟨⟨h0,h1⟩,rfl,rfl⟩:=h
    obtain ⟨n,rfl⟩:∃n:Nat,x=n:=⟨x.toNat,by omega⟩
    refine ⟨?_,by simp [okV,Nat.blt],clo_spec 8 _ rfl,Ay rfl⟩
    have p16:((2:Int)^min (Int.toNat 16) u32.bits)=65536:=rfl
    have p8':((2:Int)^min (Int.toNat 8) u32.bits)=256:=rfl
    have n0:=rlz.run0 (n:Int)
    have n1:=rlz.run1 (n:Int)
    have n2:=rlz.run2 (n:Int)
    have n3:=rlz.run3 (n:Int)
    rw [p16,p8'] at n0
    rw [p16] at n1
    rw [p8'] at n2
    rw [OU n 65536 (by decide),OU (n/(65536:Int).toNat) 256 (by decide),show (65536:Int).toNat=2^16 from rfl,show (256:Int).toNat=2^8 from rfl,Nat.div_div_eq_div_mul,show 2^16*2^8=2^24 from rfl] at n0
    rw [OU n 65536 (by decide),show (65536:Int).toNat=2^16 from rfl] at n1
    rw [OU n 256 (by decide),show (256:Int).toNat=2^8 from rfl] at n2
    have q16:(2:Nat)^16=65536:=rfl
    have q24:(2:Nat)^24=16777216:=rfl
    have q8:(2:Nat)^8=256:=rfl
    by_cases c1:65536≤n
    · by_cases c2:256≤n/2^16
      · have hz:n/2^24<256:=by omega
        have hz0:n/2^24≠0:=by omega
        rw [MB hz,Int.toNat_natCast,L4 hz hz0,K5] at n0
        have hs:=KX hz0
        refine (n0 (dtrue (by omega)) (dtrue (by omega)) (dtrue2 (by omega) (by omega))).trans ?_
        have hl:(n/2^24).log2<8:=(Nat.log2_lt hz0).2 (by omega)
        generalize (n/2^24).log2=l at*
        rw [w64 (n:=24) (by omega) (by omega),w64 (n:=((l+1:Nat):Int)) (by omega) (by omega),w64 (n:=24+((l+1:Nat):Int)) (by omega) (by omega),w64 (by omega) (by omega)]
        refine congrArg (fun z=>some (Value.int i64 z,([]:List Blk))) ?_
        unfold clz
        rw [Int.toNat_natCast]; omega
      · have hz:n/2^16<256:=by omega
        have hz0:n/2^16≠0:=by omega
        rw [MB hz,Int.toNat_natCast,L4 hz hz0,K5] at n1
        have hs:=KX hz0
        refine (n1 (dtrue (by omega)) (dfalse (by omega)) (dtrue2 (by omega) (by omega))).trans ?_
        have hl:(n/2^16).log2<8:=(Nat.log2_lt hz0).2 (by omega)
        generalize (n/2^16).log2=l at*
        rw [w64 (n:=((l+1:Nat):Int)) (by omega) (by omega),w64 (n:=16+((l+1:Nat):Int)) (by omega) (by omega),w64 (by omega) (by omega)]
        refine congrArg (fun z=>some (Value.int i64 z,([]:List Blk))) ?_
        unfold clz
        rw [Int.toNat_natCast]; omega
    · by_cases c2:256≤n
      · have hz:n/2^8<256:=by omega
        have hz0:n/2^8≠0:=by omega
        rw [MB hz,Int.toNat_natCast,L4 hz hz0,K5] at n2
        have hs:=KX hz0
        refine (n2 (dfalse (by omega)) (dtrue (by omega)) (dtrue2 (by omega) (by omega))).trans ?_
        have hl:(n/2^8).log2<8:=(Nat.log2_lt hz0).2 (by omega)
        generalize (n/2^8).log2=l at*
        rw [w64 (n:=8) (by omega) (by omega),w64 (n:=((l+1:Nat):Int)) (by omega) (by omega),w64 (n:=8+((l+1:Nat):Int)) (by omega) (by omega),w64 (by omega) (by omega)]
        refine congrArg (fun z=>some (Value.int i64 z,([]:List Blk))) ?_
        unfold clz
        rw [Int.toNat_natCast]; omega
      · have hz:n<256:=by omega
        rw [MB hz,Int.toNat_natCast,L4 hz (by omega),K5] at n3
        refine (n3 (dfalse (by omega)) (dfalse (by omega)) (dtrue2 (by omega) (by omega))).trans ?_
        have hl:n.log2<8:=(Nat.log2_lt (show n≠0 by omega)).2 (by omega)
        generalize hll:n.log2=l at*
        rw [w64 (n:=((l+1:Nat):Int)) (by omega) (by omega),w64 (n:=0+((l+1:Nat):Int)) (by omega) (by omega),w64 (by omega) (by omega)]
        refine congrArg (fun z=>some (Value.int i64 z,([]:List Blk))) ?_
        unfold clz
        rw [Int.toNat_natCast]; omega
  · cases h
theorem Hd:∀(a b:Nat) (v:Int),dg (a+b) v=dg a v++dg b (v/pw a)
 |0,b,v=>by rw [Nat.zero_add,If,Int.ediv_one]; rfl
 | a+1,b,v=>by
  rw [show a+1+b=(a+b)+1 by omega]
  show v%4294967296::dg (a+b) (v/4294967296)=v%4294967296::(dg a (v/4294967296)++_)
  rw [Hd a b,GS,Int.ediv_ediv,if_neg (by omega),Int.sub_zero]
theorem Nw {a b c:Int} (hb:0<b) (hc:0<c):a%(b*c)/b=a/b%c:=by
 have h1:=Int.emod_add_mul_ediv a (b*c)
 have h2:a/b/c=a/(b*c):=by rw [Int.ediv_ediv,if_neg (by omega),Int.sub_zero]
 have h3:a%(b*c)=a+b*(-(c*(a/b/c))):=by rw [h2,Int.mul_neg,←Int.mul_assoc]; omega
 rw [h3,Int.add_mul_ediv_left _ _ (by omega)]
 have:=Int.emod_add_mul_ediv (a/b) c
 omega
theorem Pa {a b c:Int} (hb:0<b) (h:a<c*b):a/b<c:=Int.ediv_lt_of_lt_mul hb h
theorem dv_step {U V:Int} {j n lu:Nat} (hV:0<V) (hVn:V<pw n) (hj:j+n+1≤lu):
  nv (seg (dg lu (U%(V*pw (j+1)))) j (n+1))=U%(V*pw (j+1))/pw j∧U%(V*pw (j+1))/pw j<V*4294967296∧
  ip (dg lu (U%(V*pw (j+1)))) j (n+1) (U%(V*pw (j+1))/pw j%V)=dg lu (U%(V*pw j))∧U%(V*pw (j+1))/pw j/V=U/(V*pw j)%4294967296:=by
 have hp:=Gd j
 have hp1:=Gd (j+1)
 have hVp:0<V*pw (j+1):=Int.mul_pos hV hp1
 have hVj:0<V*pw j:=Int.mul_pos hV hp
 have R0:=Int.emod_nonneg U (show V*pw (j+1)≠0 by omega)
 have R1:=Int.emod_lt_of_pos U hVp
 have hR':U%(V*pw (j+1))%(V*pw j)=U%(V*pw j):=by
  rw [GS,Int.mul_left_comm,Int.mul_comm 4294967296,Int.emod_emod_of_dvd _ ⟨4294967296,rfl⟩]
 have hd4:U%(V*pw (j+1))/(V*pw j)=U/(V*pw j)%4294967296:=by
  rw [GS,Int.mul_left_comm,Int.mul_comm 4294967296]; exact Nw hVj (by decide)
 generalize hR:U%(V*pw (j+1))=R at*
 have hRj0:0≤R/pw j:=Int.ediv_nonneg R0 (by omega)
 have hRj:R/pw j<V*4294967296:=Pa hp (by rw [Int.mul_assoc,←GS]; exact R1)
 have hb:V*4294967296<pw (n+1):=by rw [GS,Int.mul_comm 4294967296]; omega
 have e1:dg lu R=dg j R++(dg (n+1) (R/pw j)++dg (lu-(j+n+1)) (R/pw j/pw (n+1))):=by
  rw [←Hd,←Hd,show j+(n+1+(lu-(j+n+1)))=lu by omega]
 have hz:R/pw j/pw (n+1)=0:=Int.ediv_eq_zero_of_lt hRj0 (by omega)
 have hseg:seg (dg lu R) j (n+1)=dg (n+1) (R/pw j):=by
  rw [e1]; unfold seg
  rw [List.drop_left' (Di _ _),List.take_left' (Di _ _)]
 refine ⟨by rw [hseg,I0 _ _ hRj0 (by omega)],hRj,?_,?_⟩
 ·have w0:=Int.emod_nonneg (R/pw j) (show V≠0 by omega)
  have w1:=Int.emod_lt_of_pos (R/pw j) hV
  have hw:R%(V*pw j)/pw j=R/pw j%V:=by rw [Int.mul_comm]; exact Nw hp hV
  have hn1:pw n≤pw (n+1):=by rw [GS]; have:=Gd n; omega
  have e2:dg lu (R%(V*pw j))=dg j (R%(V*pw j))++(dg (n+1) (R/pw j%V)++dg (lu-(j+n+1)) 0):=by
   have:R/pw j%V/pw (n+1)=0:=Int.ediv_eq_zero_of_lt w0 (by omega)
   rw [←this,←Hd,←hw,←Hd,show j+(n+1+(lu-(j+n+1)))=lu by omega]
  have e3:dg j (R%(V*pw j))=dg j R:=by
   have h1:=Int.emod_add_mul_ediv R (V*pw j)
   have h2:=Kd j (R%(V*pw j)) (V*(R/(V*pw j)))
   rw [←h2,←Int.mul_assoc,Int.mul_comm (pw j),h1]
  rw [←hR',e2,e3]
  unfold ip
  have e5:(dg j R++(dg (n+1) (R/pw j)++dg (lu-(j+n+1)) 0)).drop (j+(n+1))=dg (lu-(j+n+1)) 0:=by
   rw [←List.append_assoc,List.drop_left' (by rw [List.length_append,Di,Di])]
  rw [e1,hz,List.take_left' (Di _ _),e5]
 ·rw [←hd4,Int.ediv_ediv,if_neg (by omega),Int.sub_zero,Int.mul_comm]
section
variable {N:Nat→Prop} {xe:X} {Se:St} (k:Int) (n cv lu cu:Nat) (nn:Int) (lq cq:Nat) (j:Int) (vs us qs xs ys:List Int) (nx:Nat)
abbrev dv0.st:St:=⟨gbuild [(8,.int .i64 k),(9,.slice (some ⟨306,0,none⟩) n cv),(10,.slice (some ⟨386,0,none⟩) lu cu),(11,.int .i64 nn),(12,.slice (some ⟨530,0,none⟩) lq cq),(13,.int .i64 j)] 0 110,[(306,.is .u32 vs 144),(386,.is .u32 us 144),(530,.is .u32 qs 144),(0,.is .u32 xs 144),(1,.is .u32 ys 144)],nx⟩
abbrev dv0.lk:=RX.lk [8,9,10,11,12,13] [306,386,530,0,1]
theorem dv0.rnd:rd Tryz.prog ⟨[(143,digit.sp)],[],[]⟩ [] 5 (Ag Tryz.f132 0) (dv0.st k n cv lu cu nn lq cq j vs us qs xs ys nx) 110 [8,9,10,11,12,13] [306,386,530,0,1]=
 bif decide (j≥0) then bif decide (0≤i64.wrap (i64.wrap (j+nn)+1))&&decide (i64.wrap (i64.wrap (j+nn)+1)≤((cu:Nat):Int))&&(decide (0≤j)&&decide (j≤(((i64.wrap (i64.wrap (j+nn)+1)).toNat:Nat):Int))) then bif ((i64.wrap (i64.wrap (j+nn)+1)).toNat-j.toNat).beq (n+1)&&(Nat.ble 2 n&&(Du (bif cu.beq j.toNat then 0 else 0+j.toNat*1) ((i64.wrap (i64.wrap (j+nn)+1)).toNat-j.toNat) us&&(Du 0 n vs&&(decide (2147483648≤vs.getD (0+(n-1)) 0)&&decide (nv (seg us (bif cu.beq j.toNat then 0 else 0+j.toNat*1) (n+1))<nv (seg vs 0 n)*4294967296))))) then bif decide (0≤j)&&decide (j<((lq:Nat):Int)) then bif (0+j.toNat*1).blt qs.length then dv0.lk .normal (dv0.st k n cv lu cu nn lq cq (i64.wrap (j-1)) vs (ip us (bif cu.beq j.toNat then 0 else 0+j.toNat*1) (n+1) (nv (seg us (bif cu.beq j.toNat then 0 else 0+j.toNat*1) (n+1))%nv (seg vs 0 n))) (qs.set (0+j.toNat*1) (nv (seg us (bif cu.beq j.toNat then 0 else 0+j.toNat*1) (n+1))/nv (seg vs 0 n))) xs ys nx) else none else none else none else none else some ((X.exit 0,[Value.int i64 k,Value.slice (some {block:=306,off:=0}) n cv,Value.slice (some {block:=386,off:=0}) lu cu,Value.int i64 nn,Value.slice (some {block:=530,off:=0}) lq cq,Value.int i64 j],[some (Blk.is u32 vs 144),some (Blk.is u32 us 144),some (Blk.is u32 qs 144),some (Blk.is u32 xs 144),some (Blk.is u32 ys 144)])):=by kernel_rfl
def dv0.step0:=fun h0 h1 h2 h3 h4 (ih:Lq Tryz.prog N (Ag Tryz.f132 0) _ xe Se)=>Lq.toK (f:=5) ⟨Aa JT.ok Ac,Ai,Ad,Ah⟩ Be ((((((dv0.rnd k n cv lu cu nn lq cq j vs us qs xs ys nx).ct h0).ct h1).ct h2).ct h3).ct h4) rfl rfl ih
def dv0.stop1:=fun h0=>Lq.stop (S2:=⟨gbuild [(8,Value.int i64 k),(10,Value.slice (some {block:=386,off:=0}) lu cu),(11,Value.int i64 nn),(12,Value.slice (some {block:=530,off:=0}) lq cq)] 0 110,[(306,Blk.is u32 vs 144),(386,Blk.is u32 us 144),(530,Blk.is u32 qs 144),(0,Blk.is u32 xs 144),(1,Blk.is u32 ys 144)],nx⟩) (N:=N) (f:=5) ⟨Aa JT.ok Ac,Ai,Ad,Ah⟩ Be ((dv0.rnd k n cv lu cu nn lq cq j vs us qs xs ys nx).cf h0) (fun q=>by cases q) (fun h=>q_of (.cons ⟨rfl,bint⟩ (.cons ⟨rfl,(bslice (bname h (m:=386) rfl))⟩ (.cons ⟨rfl,bint⟩ (.cons ⟨rfl,(bslice (bname h (m:=530) rfl))⟩ .nil)))) (.cons ⟨rfl,(bname h (m:=306) rfl),rfl⟩ (.cons ⟨rfl,(bname h (m:=386) rfl),rfl⟩ (.cons ⟨rfl,(bname h (m:=530) rfl),rfl⟩ (.cons ⟨rfl,(bname h (m:=0) rfl),rfl⟩ (.cons ⟨rfl,(bname h (m:=1) rfl),rfl⟩ .nil))))))
end
def dv0.ok (n lu cu:Nat) (nn:Int) (lq:Nat) (j:Int) (vs us qs:List Int):Bool:=decide (nn=(n:Int))&&(Nat.beq cu lu&&(Nat.beq (lq+n) lu&&(decide (j+1=(lq:Int))&&(decide (qs=List.replicate lq 0)&&(Nat.beq us.length lu&&(Du 0 lu us&&(Nat.ble 2 n&&(Du 0 n vs&&(decide (2147483648≤vs.getD (n-1) 0)&&decide (nv us<nv (seg vs 0 n)*pw lq))))))))))
abbrev dv0.fin (k:Int) (n cv lu cu:Nat) (nn:Int) (lq cq:Nat) (vs:List Int) (us qs xs ys:List Int) (nx:Nat):St:=⟨gbuild [(8,Value.int i64 k),(10,Value.slice (some {block:=386,off:=0}) lu cu),(11,Value.int i64 nn),(12,Value.slice (some {block:=530,off:=0}) lq cq)] 0 110,[(306,Blk.is u32 vs 144),(386,Blk.is u32 us 144),(530,Blk.is u32 qs 144),(0,Blk.is u32 xs 144),(1,Blk.is u32 ys 144)],nx⟩
def dv0.lt (k:Int) (n cv lu cu:Nat) (nn:Int) (lq cq:Nat) (j:Int) (vs us qs xs ys:List Int) (nx:Nat):LT:= .got (dv0.ok n lu cu nn lq j vs us qs) (.exit 0) (dv0.fin k n cv lu cu nn lq cq vs (dg lu (nv us%nv (seg vs 0 n))) (dg lq (nv us/nv (seg vs 0 n))) xs ys nx)
theorem dv0.go {N:Nat→Prop} (k:Int) (n cv lu lq cq:Nat) (vs:List Int) (U:Int) (xs ys:List Int) (nx:Nat) (hn:2≤n) (hq:lq+n=lu) (hl:lu≤4294967296) (hv:Du 0 n vs=true) (ht:2147483648≤vs.getD (n-1) 0) (hV:0<nv (seg vs 0 n)) (hVn:nv (seg vs 0 n)<pw n):∀(j:Nat),j≤lq→Lq Tryz.prog N (Ag Tryz.f132 0) (dv0.st k n cv lu lu (n:Int) lq cq ((j:Int)-1) vs (dg lu (U%(nv (seg vs 0 n)*pw j))) (List.replicate j 0++dg (lq-j) (U/(nv (seg vs 0 n)*pw j))) xs ys nx) (.exit 0) (dv0.fin k n cv lu lu (n:Int) lq cq vs (dg lu (U%nv (seg vs 0 n))) (dg lq (U/nv (seg vs 0 n))) xs ys nx)
 | 0,_=>by
  rw [If,Int.mul_one]
  exact dv0.stop1 _ _ _ _ _ _ _ _ _ _ _ _ _ _ _ (dfalse (by omega))
 | j + 1,hj=>by
  have e0:(((j+1:Nat):Int)-1)=(j:Int):=by omega
  have e1:i64.wrap ((j:Int)-1)=(j:Int)-1:=w64 (by omega) (by omega)
  have e2:i64.wrap (i64.wrap ((j:Int)+(n:Int))+1)=((j+n+1:Nat):Int):=by rw [w64 (n:=(j:Int)+(n:Int)) (by omega) (by omega),w64 (by omega) (by omega)]; omega
  obtain ⟨s1,s2,s3,s4⟩:=dv_step (U:=U) (j:=j) (n:=n) (lu:=lu) hV hVn (by omega)
  have ih:=dv0.go (N:=N) k n cv lu lq cq vs U xs ys nx hn hq hl hv ht hV hVn j (by omega)
  have hb:(bif lu.beq ((j:Int)).toNat then 0 else 0+((j:Int)).toNat*1)=j:=by
   rw [Int.toNat_natCast,Nat.mul_one,Nat.zero_add]
   have:lu.beq j=false:=Bool.eq_false_iff.2 (fun h=>by have:=zE h; omega)
   rw [this]; rfl
  have hd:((((j+n+1:Nat):Int)).toNat-((j:Int)).toNat)=n+1:=by rw [Int.toNat_natCast,Int.toNat_natCast]; omega
  have ez:0+((j:Int)).toNat*1=j:=by simp
  rw [e0]
  refine dv0.step0 _ _ _ _ _ _ _ _ _ _ _ _ _ _ _ (dtrue (by omega)) ?_ ?_ (dtrue2 (by omega) (by omega)) (by rw [ez]; simp only [List.length_append,List.length_replicate,Di]; exact Fi (by omega)) ?_
  ·rw [e2,zB]
   exact ⟨dtrue2 (by omega) (by omega),dtrue2 (by omega) (by rw [Int.toNat_natCast]; omega)⟩
  ·rw [e2,hd,hb,Nat.zero_add]
   simp only [zB,Nat.ble_eq,zD,Nat.beq_eq]
   refine ⟨trivial,hn,Eo.2 ⟨by rw [Di]; omega,by omega,Gn _ _⟩,hv,ht,?_⟩
   rw [s1]; exact s2
  ·rw [hb,ez,e1,s1,s3,s4,Qo]
   rw [show lq-j=lq-(j+1)+1 by omega] at ih
   have hdg:dg (lq-(j+1)+1) (U/(nv (seg vs 0 n)*pw j))=U/(nv (seg vs 0 n)*pw j)%4294967296::dg (lq-(j+1)) (U/(nv (seg vs 0 n)*pw (j+1))):=by
    show _::dg _ (U/(nv (seg vs 0 n)*pw j)/4294967296)=_
    rw [Int.ediv_ediv,if_neg (by have:=Int.mul_pos hV (Gd j); omega),Int.sub_zero,Int.mul_assoc,Int.mul_comm (pw j),←GS]
   rw [hdg] at ih
   exact ih
theorem dv0.lp {N:Nat→Prop} (k:Int) (n cv lu cu:Nat) (nn:Int) (lq cq:Nat) (j:Int) (vs us qs xs ys:List Int) (nx:Nat) {x:X} {S':St} (h:(dv0.lt k n cv lu cu nn lq cq j vs us qs xs ys nx).at=some (x,S')):Lq Tryz.prog N (Ag Tryz.f132 0) (dv0.st k n cv lu cu nn lq cq j vs us qs xs ys nx) x S':=by
 obtain ⟨h1,rfl,rfl⟩:=Fw h
 simp only [dv0.ok,zB,Nat.ble_eq,zD] at h1
 obtain ⟨rfl,h2,h3,h4,rfl,h6,h7,h8,h9,h10,h11⟩:=h1
 obtain rfl:=zE h2
 have h3:=zE h3
 have h6:=zE h6
 obtain ⟨a1,a2,a3⟩:=Eo.1 h7
 obtain ⟨b1,b2,b3⟩:=Eo.1 h9
 obtain rfl:j=(lq:Int)-1:=by omega
 have hU0:=El a3
 have hVn:=Gz (Fg b3 0 n)
 rw [Fh b1] at hVn
 have hpw:=Gd lq
 have hV:0<nv (seg vs 0 n):=by
  refine Int.lt_of_not_ge fun hz=> ?_
  have:nv (seg vs 0 n)*pw lq≤0:=Int.mul_nonpos_of_nonpos_of_nonneg hz (by omega)
  omega
 have:=dv0.go (N:=N) k n cv cu lq cq vs (nv us) xs ys nx h8 h3 a2 h9 h10 hV hVn lq (Nat.le_refl _)
 rw [Int.emod_eq_of_lt hU0 h11,Nat.sub_self] at this
 have e:=Jn a3
 rw [h6] at e
 rw [e] at this
 simp only [dg,List.append_nil] at this
 exact this
def dv0.t:LSpec:=fun S=>match RX.nth S.tmps 8,RX.nth S.tmps 9,RX.nth S.tmps 10,RX.nth S.tmps 11,RX.nth S.tmps 12,RX.nth S.tmps 13,RX.look S.heap 306,RX.look S.heap 386,RX.look S.heap 530,RX.look S.heap 0,RX.look S.heap 1 with
 | .int .i64 k,.slice (some ⟨306,0,none⟩) n cv,.slice (some ⟨386,0,none⟩) lu cu,.int .i64 nn,.slice (some ⟨530,0,none⟩) lq cq,.int .i64 j,some (.is .u32 vs 144),some (.is .u32 us 144),some (.is .u32 qs 144),some (.is .u32 xs 144),some (.is .u32 ys 144)=>bif Nat.beq S.tmps.length 110 then some (dv0.lt k n cv lu cu nn lq cq j vs us qs xs ys S.nxt) else none
 |_,_,_,_,_,_,_,_,_,_,_=>none
theorem dv0.lok {N:Nat→Prop} :LOKn Tryz.prog N (Ag Tryz.f132 0) (dv0.t):=by
 refine Ge fun S lt x S' ht hat=> ?_
 unfold dv0.t at ht
 split at ht
 ·rename_i k n cv lu cu nn lq cq j vs us qs xs ys h8 h9 h10 h11 h12 h13 g306 g386 g530 g0 g1
  cases hb:Nat.beq S.tmps.length 110 with
  |false=>rw [hb] at ht; cases ht
  | true=>
   rw [hb] at ht
   injection ht with ht
   subst ht
   have hb:=zE hb
   exact .enter (fun h=>Gr hb (.cons ⟨h8,bnth h h8⟩ (.cons ⟨h9,bnth h h9⟩ (.cons ⟨h10,bnth h h10⟩ (.cons ⟨h11,bnth h h11⟩ (.cons ⟨h12,bnth h h12⟩ (.cons ⟨h13,bnth h h13⟩ .nil)))))) (.cons ⟨g306,bname h g306,rfl⟩ (.cons ⟨g386,bname h g386,rfl⟩ (.cons ⟨g530,bname h g530,rfl⟩ (.cons ⟨g0,bname h g0,rfl⟩ (.cons ⟨g1,bname h g1,rfl⟩ .nil)))))) (dv0.lp _ _ _ _ _ _ _ _ _ _ _ _ _ _ _ hat)
 ·cases ht
theorem MN {n i:Nat} (h:i<n) (v:Int):(dg n v).getD i 0=v/pw i%4294967296:=by
 obtain ⟨d,rfl⟩:=Nat.exists_eq_add_of_lt h
 rw [show i+d+1=i+(d+1) by omega,Hd,List.getD_eq_getElem?_getD,List.getElem?_append_right (by rw [Di]; omega),Di,Nat.sub_self]
 rfl
theorem p2_ediv {k:Nat} (v:Int):v.fdiv (2^k)=v/p2 k:=by
 rw [Int.fdiv_eq_ediv_of_nonneg _ (by have:=KR k; have h:((2:Int)^k)=p2 k:=(Int.natCast_pow 2 k).symm; omega)]
 rw [show ((2:Int)^k)=p2 k from (Int.natCast_pow 2 k).symm]
theorem SM {R:Int} {i k:Nat} (hk:k≤32):(R/pw i%4294967296+4294967296*(R/pw (i+1)%4294967296))/p2 k%4294967296=R/p2 k/pw i%4294967296:=by
 have hp:=Gd i
 have h2:=KR k
 have hs:=Mr hk
 have e1:R/pw (i+1)=R/pw i/4294967296:=by rw [Int.ediv_ediv,if_neg (by omega),Int.sub_zero,GS,Int.mul_comm]
 have e2:R/p2 k/pw i=R/pw i/p2 k:=by rw [Int.ediv_ediv,Int.ediv_ediv,if_neg (by omega),if_neg (by omega),Int.sub_zero,Int.sub_zero,Int.mul_comm]
 rw [e1,e2]
 generalize R/pw i=y
 have e3:y=(y%4294967296+4294967296*(y/4294967296%4294967296))+p2 k*(4294967296*(p2 (32-k)*(y/4294967296/4294967296))):=by
  rw [Int.mul_left_comm (p2 k),←Int.mul_assoc (p2 k),hs]; omega
 have e4:y/p2 k=(y%4294967296+4294967296*(y/4294967296%4294967296))/p2 k+4294967296*(p2 (32-k)*(y/4294967296/4294967296)):=by
  rw [←Int.add_mul_ediv_left _ _ (show p2 k≠0 by omega),←e3]
 rw [e4]
 omega
section
variable {N:Nat→Prop} {xe:X} {Se:St} (k:Int) (lu cu lq cq n cr:Nat) (z i:Int) (us qs xs ys:List Int)
abbrev dv2.st:St:=⟨gbuild [(8,.int .i64 k),(10,.slice (some ⟨386,0,none⟩) lu cu),(12,.slice (some ⟨530,0,none⟩) lq cq),(14,.slice (some ⟨386,0,none⟩) n cr),(82,.int .i64 z),(83,.int .i64 i)] 0 110,[(386,.is .u32 us 144),(530,.is .u32 qs 144),(0,.is .u32 xs 144),(1,.is .u32 ys 144)],770⟩
abbrev dv2.lk:=RX.lk [8,10,12,14,82,83] [386,530,0,1]
theorem dv2.rnd:rd Tryz.prog ⟨[],[],[]⟩ [] 3 (Ag Tryz.f132 2) (dv2.st k lu cu lq cq n cr z i us qs xs ys) 110 [8,10,12,14,82,83] [386,530,0,1]=
 bif decide (i<z) then bif decide (0≤i64.wrap (i+1))&&decide (i64.wrap (i+1)<((lu:Nat):Int)) then bif (0+(i64.wrap (i+1)).toNat*1).blt us.length then bif decide (0≤i)&&decide (i<((lu:Nat):Int)) then bif (0+i.toNat*1).blt us.length then bif decide (0≤k) then bif decide (0≤i)&&decide (i<((n:Nat):Int)) then bif (0+i.toNat*1).blt us.length then dv2.lk .normal (dv2.st k lu cu lq cq n cr z (i64.wrap (i+1)) (us.set (0+i.toNat*1) (u32.wrap ((Ew BinOp.or u64 (u64.wrap (u64.wrap (us.getD (0+(i64.wrap (i+1)).toNat*1) 0)*2^min (Int.toNat 32) u64.bits)) (u64.wrap (us.getD (0+i.toNat*1) 0))).fdiv (2^min k.toNat u64.bits)))) qs xs ys) else none else none else none else none else none else none else none else dv2.lk (.exit 2) (dv2.st k lu cu lq cq n cr z i us qs xs ys):=by kernel_rfl
def dv2.step0:=fun h0 h1 h2 h3 h4 h5 h6 h7 (ih:Lq Tryz.prog N (Ag Tryz.f132 2) _ xe Se)=>Lq.to (f:=3) ⟨Ac,Ai,Ad,Ah⟩ Be (((((((((dv2.rnd k lu cu lq cq n cr z i us qs xs ys).ct h0).ct h1).ct h2).ct h3).ct h4).ct h5).ct h6).ct h7) rfl ih
def dv2.stop1:=fun h0=>Lq.end (N:=N) (f:=3) ⟨Ac,Ai,Ad,Ah⟩ Be ((dv2.rnd k lu cu lq cq n cr z i us qs xs ys).cf h0) (fun q=>by cases q) rfl
end
def dv2.ok (k:Int) (lu n:Nat) (z i:Int) (us:List Int):Bool:=decide (0≤k)&&(decide (k≤31)&&(decide (z=(n:Int))&&(decide (i=0)&&(Nat.ble (n+1) lu&&(Nat.beq us.length lu&&Du 0 lu us)))))
def dv2.lt (k:Int) (lu cu lq cq n cr:Nat) (z i:Int) (us qs xs ys:List Int):LT:= .got (dv2.ok k lu n z i us) (.exit 2) (dv2.st k lu cu lq cq n cr z z (ip us 0 n (nv us/p2 k.toNat)) qs xs ys)
theorem dv2.go {N:Nat→Prop} (k:Nat) (lu cu lq cq n cr:Nat) (R:Int) (qs xs ys:List Int) (hk:k≤31) (hn:n+1≤lu) (hl:lu≤4294967296):∀(j i:Nat),i+j=n→Lq Tryz.prog N (Ag Tryz.f132 2) (dv2.st (k:Int) lu cu lq cq n cr (n:Int) (i:Int) (ip (dg lu R) 0 i (R/p2 k)) qs xs ys) (.exit 2) (dv2.st (k:Int) lu cu lq cq n cr (n:Int) (n:Int) (ip (dg lu R) 0 n (R/p2 k)) qs xs ys)
 | 0,i,h=>by
  obtain rfl:i=n:=by omega
  exact dv2.stop1 _ _ _ _ _ _ _ _ _ _ _ _ _ (dfalse (by omega))
 | j +1,i,h=>by
  have e1:i64.wrap ((i:Int)+1)=((i+1:Nat):Int):=by rw [w64 (by omega) (by omega)]; omega
  have ea:0+((i:Int)).toNat*1=0+i:=by simp
  have eb:0+(((i+1:Nat):Int)).toNat*1=0+(i+1):=by simp
  have hlen:(ip (dg lu R) 0 i (R/p2 k)).length=lu:=by rw [IP _ (by rw [Di]; omega),Di]
  have g0:(ip (dg lu R) 0 i (R/p2 k)).getD (0+i) 0=R/pw i%4294967296:=by
   rw [Ll _ (by rw [Di]; omega) (Nat.le_refl _),Nat.zero_add,MN (by omega)]
  have g1:(ip (dg lu R) 0 i (R/p2 k)).getD (0+(i+1)) 0=R/pw (i+1)%4294967296:=by
   rw [Ll _ (by rw [Di]; omega) (by omega),Nat.zero_add,MN (by omega)]
  have ih:=dv2.go (N:=N) k lu cu lq cq n cr R qs xs ys hk hn hl j (i+1) (by omega)
  have em:min ((k:Int)).toNat u64.bits=k:=by rw [Int.toNat_natCast]; exact Nat.min_eq_left (by show k≤64; omega)
  have a0:=Int.emod_nonneg (R/pw i) (show (4294967296:Int)≠0 by decide)
  have a1:=Int.emod_lt_of_pos (R/pw i) (show (0:Int)<4294967296 by decide)
  have b0:=Int.emod_nonneg (R/pw (i+1)) (show (4294967296:Int)≠0 by decide)
  have b1:=Int.emod_lt_of_pos (R/pw (i+1)) (show (0:Int)<4294967296 by decide)
  refine dv2.step0 _ _ _ _ _ _ _ _ _ _ _ _ _ (dtrue (by omega)) (by rw [e1]; exact dtrue2 (by omega) (by omega)) (by rw [e1,eb,hlen]; exact Fi (by omega)) (dtrue2 (by omega) (by omega)) (by rw [ea,hlen]; exact Fi (by omega)) (dtrue (by omega)) (dtrue2 (by omega) (by omega)) (by rw [ea,hlen]; exact Fi (by omega)) ?_
  rw [e1,eb,ea,g0,g1,em,u64of (n:=R/pw (i+1)%4294967296) b0 (by omega),PI a0 a1 b0 b1,p2_ediv,wu32,SM (by omega)]
  have hset:=N8 (us:=dg lu R) (o:=0) (k:=i) (by rw [Di]; omega) (R/p2 k) 0
  rw [Int.add_zero,Int.mul_zero,Int.add_zero] at hset
  rw [hset]
  exact ih
theorem dv2.lp {N:Nat→Prop} (k:Int) (lu cu lq cq n cr:Nat) (z i:Int) (us qs xs ys:List Int) {x:X} {S':St} (h:(dv2.lt k lu cu lq cq n cr z i us qs xs ys).at=some (x,S')):Lq Tryz.prog N (Ag Tryz.f132 2) (dv2.st k lu cu lq cq n cr z i us qs xs ys) x S':=by
 obtain ⟨h1,rfl,rfl⟩:=Fw h
 simp only [dv2.ok,zB,Nat.ble_eq,zD] at h1
 obtain ⟨k0,k1,rfl,rfl,h5,h6,h7⟩:=h1
 have h6:=zE h6
 obtain ⟨a1,a2,a3⟩:=Eo.1 h7
 obtain ⟨m,rfl⟩:∃m:Nat,k=m:=⟨k.toNat,by omega⟩
 have:=dv2.go (N:=N) m lu cu lq cq n cr (nv us) qs xs ys (by omega) h5 a2 n 0 (by omega)
 have e:=Jn a3
 rw [h6] at e
 rw [e,OR] at this
 rw [Int.toNat_natCast]
 exact this
def dv2.t:LSpec:=fun S=>match RX.nth S.tmps 8,RX.nth S.tmps 10,RX.nth S.tmps 12,RX.nth S.tmps 14,RX.nth S.tmps 82,RX.nth S.tmps 83,RX.look S.heap 386,RX.look S.heap 530,RX.look S.heap 0,RX.look S.heap 1,S.nxt with
 | .int .i64 k,.slice (some ⟨386,0,none⟩) lu cu,.slice (some ⟨530,0,none⟩) lq cq,.slice (some ⟨386,0,none⟩) n cr,.int .i64 z,.int .i64 i,some (.is .u32 us 144),some (.is .u32 qs 144),some (.is .u32 xs 144),some (.is .u32 ys 144),770=>bif Nat.beq S.tmps.length 110 then some (dv2.lt k lu cu lq cq n cr z i us qs xs ys) else none
 |_,_,_,_,_,_,_,_,_,_,_=>none
theorem dv2.lok {N:Nat→Prop} :LOKn Tryz.prog N (Ag Tryz.f132 2) (dv2.t):=by
 refine Ge fun S lt x S' ht hat=> ?_
 unfold dv2.t at ht
 split at ht
 ·rename_i k lu cu lq cq n cr z i us qs xs ys h8 h10 h12 h14 h82 h83 g386 g530 g0 g1 hnx
  cases hb:Nat.beq S.tmps.length 110 with
  |false=>rw [hb] at ht; cases ht
  | true=>
   rw [hb] at ht
   injection ht with ht
   subst ht
   have hb:=zE hb
   obtain ⟨T,H,_⟩:=S
   subst hnx
   exact .enter (fun h=>Gr hb (.cons ⟨h8,bnth h h8⟩ (.cons ⟨h10,bnth h h10⟩ (.cons ⟨h12,bnth h h12⟩ (.cons ⟨h14,bnth h h14⟩ (.cons ⟨h82,bnth h h82⟩ (.cons ⟨h83,bnth h h83⟩ .nil)))))) (.cons ⟨g386,bname h g386,rfl⟩ (.cons ⟨g530,bname h g530,rfl⟩ (.cons ⟨g0,bname h g0,rfl⟩ (.cons ⟨g1,bname h g1,rfl⟩ .nil))))) (dv2.lp _ _ _ _ _ _ _ _ _ _ _ _ _ hat)
 ·cases ht
theorem rdv0.run (oa la ca ob lb cb:Nat) (xs ys:List Int):xfnN Tryz.prog ⟨[(123,compare.sp),(140,small.sp),(134,Et.sp),(141,lz.sp),(142,shift.sp),(143,digit.sp)],[],[]⟩ [(0,dv0.t),(2,dv2.t)] 10 Tryz.f132 [.slice (some ⟨0,oa,none⟩) la ca,.slice (some ⟨1,ob,none⟩) lb cb] [.is .u32 xs 144,.is .u32 ys 144] []=
 let c1:=ys.getD (ob+(i64.wrap (((lb:Nat):Int)-1)).toNat*1) 0
 let c0:=dg (lb+1) (nv (seg ys ob lb)*p2 (clz c1).toNat)
 let c2:=i64.wrap (((la+1:Nat):Int)-((tl (seg c0 0 (lb+1)):Nat):Int))
 let c3:=dg (la+1) (nv (dg (la+1) (nv (seg xs oa la)*p2 (clz c1).toNat))%nv (seg c0 0 (tl (seg c0 0 (lb+1)))))
 let c4:=dg c2.toNat (nv (dg (la+1) (nv (seg xs oa la)*p2 (clz c1).toNat))/nv (seg c0 0 (tl (seg c0 0 (lb+1)))))
 bif Du oa la xs&&Du ob lb ys then bif decide (cmpI la lb (nv (seg xs oa la)) (nv (seg ys ob lb))<0) then some ((Value.tuple ⟨[Value.slice none 0 0,Value.slice (some {block:=0,off:=oa}) la ca]⟩,[Blk.is u32 xs 144,Blk.is u32 ys 144])) else bif ((lb:Nat):Int)==1 then bif decide (0≤0)&&decide (0<((lb:Nat):Int)) then bif (ob+Int.toNat 0*1).blt ys.length then bif Du oa la xs&&(decide (0<ys.getD (ob+Int.toNat 0*1) 0)&&decide (ys.getD (ob+Int.toNat 0*1) 0<4294967296)) then some ((Value.tuple ⟨[Value.slice (some {block:=210,off:=0}) (tl (dg la (nv (seg xs oa la)/ys.getD (ob+Int.toNat 0*1) 0))) la,Value.slice (some {block:=338,off:=0}) (tl (seg [nv (seg xs oa la)%ys.getD (ob+Int.toNat 0*1) 0] 0 1)) 1]⟩,[Blk.is u32 xs 144,Blk.is u32 ys 144])) else none else none else none else bif decide (0≤i64.wrap (((lb:Nat):Int)-1))&&decide (i64.wrap (((lb:Nat):Int)-1)<((lb:Nat):Int)) then bif (ob+(i64.wrap (((lb:Nat):Int)-1)).toNat*1).blt ys.length then bif decide (0<ys.getD (ob+(i64.wrap (((lb:Nat):Int)-1)).toNat*1) 0)&&decide (ys.getD (ob+(i64.wrap (((lb:Nat):Int)-1)).toNat*1) 0<4294967296) then bif Du ob lb ys&&(decide (0≤clz c1)&&decide (clz c1≤31)) then bif trim.ok 0 (lb+1) (lb+1) c0 then bif Du oa la xs&&(decide (0≤clz c1)&&decide (clz c1≤31)) then bif decide (0≤i64.wrap (((la+1:Nat):Int)-((tl (seg c0 0 (lb+1)):Nat):Int)))&&(decide (i64.wrap (((la+1:Nat):Int)-((tl (seg c0 0 (lb+1)):Nat):Int))≤i64.wrap (((la+1:Nat):Int)-((tl (seg c0 0 (lb+1)):Nat):Int)))&&(decide (i64.wrap (((la+1:Nat):Int)-((tl (seg c0 0 (lb+1)):Nat):Int))≤140737488355328)&&decide (((3+1:Nat):Int)*i64.wrap (((la+1:Nat):Int)-((tl (seg c0 0 (lb+1)):Nat):Int))≤140737488355328))) then bif dv0.ok (tl (seg c0 0 (lb+1))) (la+1) (la+1) (((tl (seg c0 0 (lb+1)):Nat):Int)) c2.toNat (i64.wrap (i64.wrap (((la+1:Nat):Int)-((tl (seg c0 0 (lb+1)):Nat):Int))-1)) c0 (dg (la+1) (nv (seg xs oa la)*p2 (clz c1).toNat)) (List.replicate (c2.toNat*1) 0) then bif decide (0≤((tl (seg c0 0 (lb+1)):Nat):Int))&&decide (((tl (seg c0 0 (lb+1)):Nat):Int)≤((la+1:Nat):Int))&&true then bif dv2.ok (clz c1) (la+1) ((((tl (seg c0 0 (lb+1)):Nat):Int)).toNat-0) ((((((tl (seg c0 0 (lb+1)):Nat):Int)).toNat-0:Nat):Int)) 0 c3 then bif trim.ok 0 c2.toNat c2.toNat c4 then bif trim.ok 0 ((((tl (seg c0 0 (lb+1)):Nat):Int)).toNat-0) (la+1-0) (ip c3 0 ((((tl (seg c0 0 (lb+1)):Nat):Int)).toNat-0) (nv c3/p2 (clz c1).toNat)) then some ((Value.tuple ⟨[Value.slice (some {block:=530,off:=0}) (tl (seg c4 0 c2.toNat)) c2.toNat,Value.slice (some {block:=386,off:=0}) (tl (seg (ip c3 0 ((((tl (seg c0 0 (lb+1)):Nat):Int)).toNat-0) (nv c3/p2 (clz c1).toNat)) 0 ((((tl (seg c0 0 (lb+1)):Nat):Int)).toNat-0))) (la+1-0)]⟩,[Blk.is u32 xs 144,Blk.is u32 ys 144])) else none else none else none else none else none else none else none else none else none else none else none else none else none:=by kernel_rfl
def rdv0.run0:=fun oa la ca ob lb cb xs ys h0 h1=>(((rdv0.run oa la ca ob lb cb xs ys).ct h0).ct h1)
theorem rdv1.run (oa la ca ob lb cb:Nat) (xs ys:List Int):xfnN Tryz.prog ⟨[(123,compare.sp),(140,small.sp),(134,Et.sp),(141,lz.sp),(142,shift.sp),(143,digit.sp)],[],[]⟩ [(0,dv0.t),(2,dv2.t)] 10 Tryz.f132 [.slice (some ⟨0,oa,none⟩) la ca,.slice (some ⟨1,ob,none⟩) lb cb] [.is .u32 xs 144,.is .u32 ys 144] [210,338]=
 let c1:=ys.getD (ob+(i64.wrap (((lb:Nat):Int)-1)).toNat*1) 0
 let c0:=dg (lb+1) (nv (seg ys ob lb)*p2 (clz c1).toNat)
 let c2:=i64.wrap (((la+1:Nat):Int)-((tl (seg c0 0 (lb+1)):Nat):Int))
 let c3:=dg (la+1) (nv (dg (la+1) (nv (seg xs oa la)*p2 (clz c1).toNat))%nv (seg c0 0 (tl (seg c0 0 (lb+1)))))
 bif Du oa la xs&&Du ob lb ys then bif decide (cmpI la lb (nv (seg xs oa la)) (nv (seg ys ob lb))<0) then none else bif ((lb:Nat):Int)==1 then bif decide (0≤0)&&decide (0<((lb:Nat):Int)) then bif (ob+Int.toNat 0*1).blt ys.length then bif Du oa la xs&&(decide (0<ys.getD (ob+Int.toNat 0*1) 0)&&decide (ys.getD (ob+Int.toNat 0*1) 0<4294967296)) then some ((Value.tuple ⟨[Value.slice (some {block:=210,off:=0}) (tl (dg la (nv (seg xs oa la)/ys.getD (ob+Int.toNat 0*1) 0))) la,Value.slice (some {block:=338,off:=0}) (tl (seg [nv (seg xs oa la)%ys.getD (ob+Int.toNat 0*1) 0] 0 1)) 1]⟩,[Blk.is u32 xs 144,Blk.is u32 ys 144,Blk.is u32 (dg la (nv (seg xs oa la)/ys.getD (ob+Int.toNat 0*1) 0)) 144,Blk.is u32 [nv (seg xs oa la)%ys.getD (ob+Int.toNat 0*1) 0] 144])) else none else none else none else bif decide (0≤i64.wrap (((lb:Nat):Int)-1))&&decide (i64.wrap (((lb:Nat):Int)-1)<((lb:Nat):Int)) then bif (ob+(i64.wrap (((lb:Nat):Int)-1)).toNat*1).blt ys.length then bif decide (0<ys.getD (ob+(i64.wrap (((lb:Nat):Int)-1)).toNat*1) 0)&&decide (ys.getD (ob+(i64.wrap (((lb:Nat):Int)-1)).toNat*1) 0<4294967296) then bif Du ob lb ys&&(decide (0≤clz c1)&&decide (clz c1≤31)) then bif trim.ok 0 (lb+1) (lb+1) c0 then bif Du oa la xs&&(decide (0≤clz c1)&&decide (clz c1≤31)) then bif decide (0≤i64.wrap (((la+1:Nat):Int)-((tl (seg c0 0 (lb+1)):Nat):Int)))&&(decide (i64.wrap (((la+1:Nat):Int)-((tl (seg c0 0 (lb+1)):Nat):Int))≤i64.wrap (((la+1:Nat):Int)-((tl (seg c0 0 (lb+1)):Nat):Int)))&&(decide (i64.wrap (((la+1:Nat):Int)-((tl (seg c0 0 (lb+1)):Nat):Int))≤140737488355328)&&decide (((3+1:Nat):Int)*i64.wrap (((la+1:Nat):Int)-((tl (seg c0 0 (lb+1)):Nat):Int))≤140737488355328))) then bif dv0.ok (tl (seg c0 0 (lb+1))) (la+1) (la+1) (((tl (seg c0 0 (lb+1)):Nat):Int)) c2.toNat (i64.wrap (i64.wrap (((la+1:Nat):Int)-((tl (seg c0 0 (lb+1)):Nat):Int))-1)) c0 (dg (la+1) (nv (seg xs oa la)*p2 (clz c1).toNat)) (List.replicate (c2.toNat*1) 0) then bif decide (0≤((tl (seg c0 0 (lb+1)):Nat):Int))&&decide (((tl (seg c0 0 (lb+1)):Nat):Int)≤((la+1:Nat):Int))&&true then bif dv2.ok (clz c1) (la+1) ((((tl (seg c0 0 (lb+1)):Nat):Int)).toNat-0) ((((((tl (seg c0 0 (lb+1)):Nat):Int)).toNat-0:Nat):Int)) 0 c3 then bif trim.ok 0 c2.toNat c2.toNat (dg c2.toNat (nv (dg (la+1) (nv (seg xs oa la)*p2 (clz c1).toNat))/nv (seg c0 0 (tl (seg c0 0 (lb+1)))))) then bif trim.ok 0 ((((tl (seg c0 0 (lb+1)):Nat):Int)).toNat-0) (la+1-0) (ip c3 0 ((((tl (seg c0 0 (lb+1)):Nat):Int)).toNat-0) (nv c3/p2 (clz c1).toNat)) then none else none else none else none else none else none else none else none else none else none else none else none else none else none:=by kernel_rfl
def rdv1.run0:=fun oa la ca ob lb cb xs ys h0 h1 h2 h3 h4 h5=>(((((((rdv1.run oa la ca ob lb cb xs ys).ct h0).cf h1).ct h2).ct h3).ct h4).ct h5)
theorem rdv2.run (oa la ca ob lb cb:Nat) (xs ys:List Int):xfnN Tryz.prog ⟨[(123,compare.sp),(140,small.sp),(134,Et.sp),(141,lz.sp),(142,shift.sp),(143,digit.sp)],[],[]⟩ [(0,dv0.t),(2,dv2.t)] 10 Tryz.f132 [.slice (some ⟨0,oa,none⟩) la ca,.slice (some ⟨1,ob,none⟩) lb cb] [.is .u32 xs 144,.is .u32 ys 144] [530,386]=
 let c3:=ys.getD (ob+(i64.wrap (((lb:Nat):Int)-1)).toNat*1) 0
 let c0:=dg (lb+1) (nv (seg ys ob lb)*p2 (clz c3).toNat)
 let c1:=ip (dg (la+1) (nv (dg (la+1) (nv (seg xs oa la)*p2 (clz c3).toNat))%nv (seg c0 0 (tl (seg c0 0 (lb+1)))))) 0 ((((tl (seg c0 0 (lb+1)):Nat):Int)).toNat-0) (nv (dg (la+1) (nv (dg (la+1) (nv (seg xs oa la)*p2 (clz c3).toNat))%nv (seg c0 0 (tl (seg c0 0 (lb+1))))))/p2 (clz c3).toNat)
 let c2:=i64.wrap (((la+1:Nat):Int)-((tl (seg c0 0 (lb+1)):Nat):Int))
 let c4:=dg c2.toNat (nv (dg (la+1) (nv (seg xs oa la)*p2 (clz c3).toNat))/nv (seg c0 0 (tl (seg c0 0 (lb+1)))))
 bif Du oa la xs&&Du ob lb ys then bif decide (cmpI la lb (nv (seg xs oa la)) (nv (seg ys ob lb))<0) then none else bif ((lb:Nat):Int)==1 then bif decide (0≤0)&&decide (0<((lb:Nat):Int)) then bif (ob+Int.toNat 0*1).blt ys.length then bif Du oa la xs&&(decide (0<ys.getD (ob+Int.toNat 0*1) 0)&&decide (ys.getD (ob+Int.toNat 0*1) 0<4294967296)) then none else none else none else none else bif decide (0≤i64.wrap (((lb:Nat):Int)-1))&&decide (i64.wrap (((lb:Nat):Int)-1)<((lb:Nat):Int)) then bif (ob+(i64.wrap (((lb:Nat):Int)-1)).toNat*1).blt ys.length then bif decide (0<ys.getD (ob+(i64.wrap (((lb:Nat):Int)-1)).toNat*1) 0)&&decide (ys.getD (ob+(i64.wrap (((lb:Nat):Int)-1)).toNat*1) 0<4294967296) then bif Du ob lb ys&&(decide (0≤clz c3)&&decide (clz c3≤31)) then bif trim.ok 0 (lb+1) (lb+1) c0 then bif Du oa la xs&&(decide (0≤clz c3)&&decide (clz c3≤31)) then bif decide (0≤i64.wrap (((la+1:Nat):Int)-((tl (seg c0 0 (lb+1)):Nat):Int)))&&(decide (i64.wrap (((la+1:Nat):Int)-((tl (seg c0 0 (lb+1)):Nat):Int))≤i64.wrap (((la+1:Nat):Int)-((tl (seg c0 0 (lb+1)):Nat):Int)))&&(decide (i64.wrap (((la+1:Nat):Int)-((tl (seg c0 0 (lb+1)):Nat):Int))≤140737488355328)&&decide (((3+1:Nat):Int)*i64.wrap (((la+1:Nat):Int)-((tl (seg c0 0 (lb+1)):Nat):Int))≤140737488355328))) then bif dv0.ok (tl (seg c0 0 (lb+1))) (la+1) (la+1) (((tl (seg c0 0 (lb+1)):Nat):Int)) c2.toNat (i64.wrap (i64.wrap (((la+1:Nat):Int)-((tl (seg c0 0 (lb+1)):Nat):Int))-1)) c0 (dg (la+1) (nv (seg xs oa la)*p2 (clz c3).toNat)) (List.replicate (c2.toNat*1) 0) then bif decide (0≤((tl (seg c0 0 (lb+1)):Nat):Int))&&decide (((tl (seg c0 0 (lb+1)):Nat):Int)≤((la+1:Nat):Int))&&true then bif dv2.ok (clz c3) (la+1) ((((tl (seg c0 0 (lb+1)):Nat):Int)).toNat-0) ((((((tl (seg c0 0 (lb+1)):Nat):Int)).toNat-0:Nat):Int)) 0 (dg (la+1) (nv (dg (la+1) (nv (seg xs oa la)*p2 (clz c3).toNat))%nv (seg c0 0 (tl (seg c0 0 (lb+1)))))) then bif trim.ok 0 c2.toNat c2.toNat c4 then bif trim.ok 0 ((((tl (seg c0 0 (lb+1)):Nat):Int)).toNat-0) (la+1-0) c1 then some ((Value.tuple ⟨[Value.slice (some {block:=530,off:=0}) (tl (seg c4 0 c2.toNat)) c2.toNat,Value.slice (some {block:=386,off:=0}) (tl (seg c1 0 ((((tl (seg c0 0 (lb+1)):Nat):Int)).toNat-0))) (la+1-0)]⟩,[Blk.is u32 xs 144,Blk.is u32 ys 144,Blk.is u32 c4 144,Blk.is u32 c1 144])) else none else none else none else none else none else none else none else none else none else none else none else none else none:=by kernel_rfl
def rdv2.run0:=fun oa la ca ob lb cb xs ys h0 h1 h2 h3 h4 h5 h6 h7 h8 h9 h10 h11 h12 h13 h14=>((((((((((((((((rdv2.run oa la ca ob lb cb xs ys).ct h0).cf h1).cf h2).ct h3).ct h4).ct h5).ct h6).ct h7).ct h8).ct h9).ct h10).ct h11).ct h12).ct h13).ct h14)
theorem tl_dg:∀ {n m:Nat} {v:Int},0≤v→v<pw m→m≤n→tl (dg n v)=tl (dg m v):=by
 intro n m v h0 h1 h
 obtain ⟨d,rfl⟩:=Nat.exists_eq_add_of_le h
 clear h
 rw [Hd,Int.ediv_eq_zero_of_lt h0 h1,LG]
 clear h0 h1
 induction d with
 |zero=>simp
 |succ d ih=>rw [List.replicate_succ',←List.append_assoc,JZ]; exact ih
theorem SD {n m:Nat} {v:Int} (h0:pw m≤v) (h1:v<pw (m+1)) (h:m+1≤n):tl (dg n v)=m+1:=by
 have hp:=Gd m
 rw [tl_dg (by omega) h1 h,LH,Pk _,Di]
 rw [GS] at h1
 have a1:v/pw m<4294967296:=Int.ediv_lt_of_lt_mul hp h1
 have a0:1≤v/pw m:=(Int.le_ediv_iff_mul_le hp).2 (by omega)
 omega
theorem ip_dg {n m:Nat} {R v:Int} (h0:0≤R) (h1:R<pw m) (v0:0≤v) (v1:v<pw m) (h:m≤n):ip (dg n R) 0 m v=dg n v:=by
 obtain ⟨d,rfl⟩:=Nat.exists_eq_add_of_le h
 unfold ip
 rw [Hd m d R,Hd m d v,Int.ediv_eq_zero_of_lt h0 h1,Int.ediv_eq_zero_of_lt v0 v1,List.take_zero,List.nil_append,Nat.zero_add,List.drop_left' (Di _ _)]
theorem Qk {n m:Nat} (h:m≤n) (v:Int):seg (dg n v) 0 m=dg m v:=by
 obtain ⟨d,rfl⟩:=Nat.exists_eq_add_of_le h
 unfold seg
 rw [List.drop_zero,Hd,List.take_left' (Di _ _)]
abbrev dvE:Env:=⟨[(123,compare.sp),(140,small.sp),(134,Et.sp),(141,lz.sp),(142,shift.sp),(143,digit.sp)],[],[]⟩
theorem QD:EnvOk Tryz.prog dvE:=⟨Aa compare.ok (Aa NT.ok (Aa Et.ok (Aa lz.ok (Aa NU.ok (Aa JT.ok Ac))))),Ai,Ad,Ah⟩
def div0.sp:HSpec
 |[.slice (some ⟨0,oa,none⟩) la ca,.slice (some ⟨1,ob,none⟩) lb cb],[.is .u32 xs 144,.is .u32 ys 144]=>some (Du oa la xs&&Du ob lb ys&&decide (cmpI la lb (nv (seg xs oa la)) (nv (seg ys ob lb))<0),.tuple ⟨[.slice none 0 0,.slice (some ⟨0,oa,none⟩) la ca]⟩,[.is .u32 xs 144,.is .u32 ys 144])
 |_,_=>none
theorem div0.ok:SOK Tryz.prog 132 div0.sp:=by
 refine Hg (E:=dvE) (L:=[(0,dv0.t),(2,dv2.t)]) QD 10 Tryz.func132 (by decide) rfl (Hm rfl (Fv rfl dv0.lok (Fv rfl dv2.lok Be))) fun vs bl v bl' h=> ?_
 unfold div0.sp at h
 split at h
 ·rename_i oa la ca ob lb cb xs ys
  simp only [zS,zP,zB] at h
  obtain ⟨⟨hA,hB⟩,rfl,rfl⟩:=h
  exact ⟨[],rdv0.run0 oa la ca ob lb cb xs ys (by rw [zB]; exact hA) hB,by simp [okV,Nat.blt],by rfl,Ay rfl,List.nodup_nil,by simp⟩
 ·cases h
def div1.sp:HSpec
 |[.slice (some ⟨0,oa,none⟩) la ca,.slice (some ⟨1,ob,none⟩) lb cb],[.is .u32 xs 144,.is .u32 ys 144]=>some (Du oa la xs&&(Du ob lb ys&&(Nat.beq lb 1&&(decide (0≤cmpI la lb (nv (seg xs oa la)) (nv (seg ys ob lb)))&&decide (0<nv (seg ys ob lb))))),.tuple ⟨[.slice (some ⟨2,0,none⟩) (tl (dg la (nv (seg xs oa la)/nv (seg ys ob lb)))) la,.slice (some ⟨3,0,none⟩) (tl (dg 1 (nv (seg xs oa la)%nv (seg ys ob lb)))) 1]⟩,[.is .u32 xs 144,.is .u32 ys 144,.is .u32 (dg la (nv (seg xs oa la)/nv (seg ys ob lb))) 144,.is .u32 (dg 1 (nv (seg xs oa la)%nv (seg ys ob lb))) 144])
 |_,_=>none
theorem div1.ok:SOK Tryz.prog 132 div1.sp:=by
 refine Hg (E:=dvE) (L:=[(0,dv0.t),(2,dv2.t)]) QD 10 Tryz.func132 (by decide) rfl (Hm rfl (Fv rfl dv0.lok (Fv rfl dv2.lok Be))) fun vs bl v bl' h=> ?_
 unfold div1.sp at h
 split at h
 ·rename_i oa la ca ob lb cb xs ys
  simp only [zS,zP,zB,zD] at h
  obtain ⟨⟨hA,hB,hl,hc,hp⟩,rfl,rfl⟩:=h
  obtain rfl:=zE hl
  obtain ⟨b1,b2,b3⟩:=Eo.1 hB
  have hY:=Fj b3 ob
  have e:nv (seg ys ob 1)=ys.getD ob 0:=by
   rw [Oz (by omega),Gw]; simp [nv]
  rw [e] at hp
  have hr:=rdv1.run0 oa la ca ob 1 cb xs ys (by rw [zB]; exact ⟨hA,hB⟩) (dfalse (by omega)) rfl rfl (Fi (by simp; omega)) (by rw [zB,zB]; exact ⟨hA,dtrue hp,dtrue hY.2⟩)
  have ez:ob+Int.toNat 0*1=ob:=by simp
  rw [ez] at hr
  have m0:=Int.emod_nonneg (nv (seg xs oa la)) (show ys.getD ob 0≠0 by omega)
  have m1:=Int.emod_lt_of_pos (nv (seg xs oa la)) hp
  have ed:dg 1 (nv (seg xs oa la)%ys.getD ob 0)=[nv (seg xs oa la)%ys.getD ob 0]:=by
   show [_%4294967296]=_
   rw [Int.emod_eq_of_lt m0 (by omega)]
  have es:seg [nv (seg xs oa la)%ys.getD ob 0] 0 1=dg 1 (nv (seg xs oa la)%ys.getD ob 0):=by rw [ed]; rfl
  rw [es,←ed] at hr
  rw [e]
  exact ⟨[210,338],hr,by simp [okV,Nat.blt],by rfl,Ay rfl,by simp,by simp⟩
 ·cases h
def div2.sp:HSpec
 |[.slice (some ⟨0,oa,none⟩) la ca,.slice (some ⟨1,ob,none⟩) lb cb],[.is .u32 xs 144,.is .u32 ys 144]=>some (Du oa la xs&&(Du ob lb ys&&(Nat.ble 2 lb&&(Nat.ble lb la&&(Nat.ble la 4294967295&&(decide (0≤cmpI la lb (nv (seg xs oa la)) (nv (seg ys ob lb)))&&decide (0<ys.getD (ob+(lb-1)) 0)))))),.tuple ⟨[.slice (some ⟨2,0,none⟩) (tl (dg (la+1-lb) (nv (seg xs oa la)/nv (seg ys ob lb)))) (la+1-lb),.slice (some ⟨3,0,none⟩) (tl (dg (la+1) (nv (seg xs oa la)%nv (seg ys ob lb)))) (la+1)]⟩,[.is .u32 xs 144,.is .u32 ys 144,.is .u32 (dg (la+1-lb) (nv (seg xs oa la)/nv (seg ys ob lb))) 144,.is .u32 (dg (la+1) (nv (seg xs oa la)%nv (seg ys ob lb))) 144])
 |_,_=>none
theorem shifted {ys:List Int} {ob lb:Nat} (hd:dig ys) (hl:2≤lb) (h:ob+lb≤ys.length) (ht:0<ys.getD (ob+(lb-1)) 0):
  pw (lb-1)≤nv (seg ys ob lb)∧2147483648*pw (lb-1)≤nv (seg ys ob lb)*p2 (clz (ys.getD (ob+(lb-1)) 0)).toNat∧nv (seg ys ob lb)*p2 (clz (ys.getD (ob+(lb-1)) 0)).toNat<pw lb:=by
 obtain ⟨m,rfl⟩:∃m,lb=m+1:=⟨lb-1,by omega⟩
 rw [show m+1-1=m by omega] at*
 have T:=Fj hd (ob+m)
 obtain ⟨k0,k1,k2,k3⟩:=TW ht T.2
 have a0:=El (Fg hd ob m)
 have a1:=Gz (Fg hd ob m)
 rw [Fh (by omega)] at a1
 have e:=Fu (o:=ob) (l:=m) (show ob+m<ys.length by omega)
 have hp:=Gd m
 have hq:=KR (clz (ys.getD (ob+m) 0)).toNat
 have hs:=Mr (k:=(clz (ys.getD (ob+m) 0)).toNat) (by omega)
 generalize p2 (clz (ys.getD (ob+m) 0)).toNat=P at*
 generalize p2 (32-(clz (ys.getD (ob+m) 0)).toNat)=P' at*
 generalize ys.getD (ob+m) 0=t at*
 generalize nv (seg ys ob m)=low at*
 rw [e,GS]
 have ht1:t+1≤P':=by
  refine Int.not_lt.1 fun hz=> ?_
  have:P'*P≤t*P:=Int.mul_le_mul_of_nonneg_right (by omega) (by omega)
  rw [Int.mul_comm P'] at this
  omega
 have h1:pw m*1≤pw m*t:=Int.mul_le_mul_of_nonneg_left (by omega) (by omega)
 refine ⟨by omega,?_,?_⟩
 ·have h2:2147483648*pw m≤(t*P)*pw m:=Int.mul_le_mul_of_nonneg_right k2 (by omega)
  have h3:0≤low*P:=Int.mul_nonneg a0 (by omega)
  rw [Int.add_mul,Int.mul_comm (pw m) t,Int.mul_assoc t,Int.mul_comm (pw m) P,←Int.mul_assoc]
  omega
 ·have h2:(low+pw m*t)*P<(pw m+pw m*t)*P:=Int.mul_lt_mul_of_pos_right (by omega) hq
  have h3:(pw m+pw m*t)*P=pw m*((t+1)*P):=by
   rw [Int.add_mul t,Int.one_mul,Int.mul_add,Int.add_mul,Int.mul_assoc (pw m) t]; omega
  have h4:(t+1)*P≤P'*P:=Int.mul_le_mul_of_nonneg_right ht1 (by omega)
  rw [Int.mul_comm P',hs] at h4
  have h5:pw m*((t+1)*P)≤pw m*4294967296:=Int.mul_le_mul_of_nonneg_left h4 (by omega)
  omega
theorem div2.ok:SOK Tryz.prog 132 div2.sp:=by
 refine Hg (E:=dvE) (L:=[(0,dv0.t),(2,dv2.t)]) QD 10 Tryz.func132 (by decide) rfl (Hm rfl (Fv rfl dv0.lok (Fv rfl dv2.lok Be))) fun vs bl v bl' h=> ?_
 unfold div2.sp at h
 split at h
 ·rename_i oa la ca ob lb cb xs ys
  simp only [zS,zP,zB,zD,Nat.ble_eq] at h
  obtain ⟨⟨hA,hB,h2,hl,hla,hc,ht⟩,rfl,rfl⟩:=h
  obtain ⟨a1,a2,a3⟩:=Eo.1 hA
  obtain ⟨b1,b2,b3⟩:=Eo.1 hB
  have T:=Fj b3 (ob+(lb-1))
  obtain ⟨k0,k1,_,_⟩:=TW ht T.2
  obtain ⟨v0,v1,v2⟩:=shifted b3 h2 b1 ht
  have w1:i64.wrap ((lb:Int)-1)=((lb-1:Nat):Int):=by rw [w64 (by omega) (by omega)]; omega
  have e1:ob+(((lb-1:Nat):Int)).toNat*1=ob+(lb-1):=by simp
  have hr:=rdv2.run0 oa la ca ob lb cb xs ys
  simp only [w1,e1] at hr
  have A0:=El (Fg a3 oa la)
  have A1:=Gz (Fg a3 oa la)
  rw [Fh a1] at A1
  have B0:=El (Fg b3 ob lb)
  have B1:=Gz (Fg b3 ob lb)
  rw [Fh b1] at B1
  have hp:=KR (clz (ys.getD (ob+(lb-1)) 0)).toNat
  have hp31:=p2_le (k:=(clz (ys.getD (ob+(lb-1)) 0)).toNat) (by omega)
  generalize hk:clz (ys.getD (ob+(lb-1)) 0)=k at*
  generalize hP:p2 k.toNat=P at*
  generalize nv (seg xs oa la)=A at*
  generalize nv (seg ys ob lb)=B at*
  have hBP0:0≤B*P:=Int.mul_nonneg B0 (by omega)
  have hAP0:0≤A*P:=Int.mul_nonneg A0 (by omega)
  have hpm:=Gd (lb-1)
  have eL:(lb-1)+1=lb:=by omega
  have hT:tl (dg (lb+1) (B*P))=lb:=by
   have:=SD (n:=lb+1) (m:=lb-1) (v:=B*P) (by omega) (by rw [eL]; exact v2) (by omega)
   omega
  have hAP1:A*P<pw (la+1):=by
   rw [GS]
   have h1:A*P≤A*4294967296:=Int.mul_le_mul_of_nonneg_left (by omega) A0
   omega
  have n1:nv (dg (la+1) (A*P))=A*P:=I0 _ _ hAP0 hAP1
  have n2:nv (seg (dg (lb+1) (B*P)) 0 lb)=B*P:=by rw [Qk (by omega),I0 _ _ hBP0 v2]
  have eS:i64.wrap (((la+1:Nat):Int)-(lb:Int))=((la+1-lb:Nat):Int):=by rw [w64 (by omega) (by omega)]; omega
  have hBpos:0<B:=by omega
  have hd1:A*P/(B*P)=A/B:=by
   rw [Int.mul_comm A,Int.mul_comm B]; exact Int.mul_ediv_mul_of_pos _ _ hp
  have hd2:A*P%(B*P)=(A%B)*P:=by
   rw [Int.mul_comm A,Int.mul_comm B,Int.mul_emod_mul_of_pos _ _ hp,Int.mul_comm]
  have m0:=Int.emod_nonneg A (show B≠0 by omega)
  have m1:=Int.emod_lt_of_pos A hBpos
  have hR0:0≤(A%B)*P:=Int.mul_nonneg m0 (by omega)
  have hR1:(A%B)*P<B*P:=Int.mul_lt_mul_of_pos_right m1 hp
  have hmono:pw lb≤pw (la+1):=Hh (by omega)
  have n3:nv (dg (la+1) ((A%B)*P))=(A%B)*P:=I0 _ _ hR0 (by omega)
  have hd3:(A%B)*P/P=A%B:=Int.mul_ediv_cancel _ (by omega)
  have n4:ip (dg (la+1) ((A%B)*P)) 0 lb (A%B)=dg (la+1) (A%B):=ip_dg hR0 (by omega) m0 (by omega) (by omega)
  have eN:((la+1-lb:Nat):Int).toNat=la+1-lb:=Int.toNat_natCast _
  simp only [hT,n1,n2,eS,hd1,hd2,Int.toNat_natCast,Nat.sub_zero,n3,hd3,n4,Qk (show lb≤la+1 by omega),Je,Nat.mul_one] at hr
  rw [←tl_dg (n:=la+1) (m:=lb) (v:=A%B) m0 (by omega) (by omega)] at hr
  have hb:2147483648≤(dg (lb+1) (B*P)).getD (lb-1) 0:=by
   rw [MN (by omega)]
   have q0:2147483648≤B*P/pw (lb-1):=(Int.le_ediv_iff_mul_le hpm).2 v1
   have q1:B*P/pw (lb-1)<4294967296:=Int.ediv_lt_of_lt_mul hpm (by rw [←eL,GS] at v2; exact v2)
   omega
  have hlt:A*P<B*P*pw (la+1-lb):=by
   have h1:pw (lb-1)*pw (la+1-lb)=pw la:=by rw [←OE]; congr 1; omega
   have h2:pw (lb-1)*pw (la+1-lb)≤B*pw (la+1-lb):=Int.mul_le_mul_of_nonneg_right v0 (by have:=Gd (la+1-lb); omega)
   have h3:A*P<(B*pw (la+1-lb))*P:=Int.mul_lt_mul_of_pos_right (by omega) hp
   rw [Int.mul_assoc,Int.mul_comm (pw _),←Int.mul_assoc] at h3
   exact h3
  refine ⟨[530,386],hr (by rw [zB]; exact ⟨hA,hB⟩) (dfalse (by omega)) ?_ (dtrue2 (by omega) (by omega)) (Fi (by omega)) (dtrue2 (by omega) (by omega)) (by rw [zB]; exact ⟨hB,dtrue2 k0 k1⟩) (I3 (Di _ _) (by omega)) (by rw [zB]; exact ⟨hA,dtrue2 k0 k1⟩) (My (by omega)) ?_ ?_ ?_ (I3 (Di _ _) (by omega)) ?_,by simp [okV,Nat.blt],by rfl,Ay rfl,by simp,by simp⟩
  ·have h1:((lb:Int)==1)=decide ((lb:Int)=1):=rfl
   rw [h1]; exact dfalse (by omega)
  ·simp only [dv0.ok,zB,Nat.ble_eq,zD,Nat.beq_eq,n1,n2,Di]
   refine ⟨trivial,trivial,by omega,?_,trivial,trivial,Eo.2 ⟨by rw [Di]; omega,by omega,Gn _ _⟩,h2,Eo.2 ⟨by rw [Di]; omega,by omega,Gn _ _⟩,hb,hlt⟩
   rw [w64 (by omega) (by omega)]; omega
  ·rw [Bool.and_true]; exact dtrue2 (by omega) (by omega)
  ·simp only [dv2.ok,zB,Nat.ble_eq,zD,Nat.beq_eq,Di]
   exact ⟨k0,k1,trivial,trivial,by omega,trivial,Eo.2 ⟨by rw [Di]; omega,by omega,Gn _ _⟩⟩
  ·simp only [trim.ok,zB,Nat.ble_eq,Di]; omega
 ·cases h
theorem SK {P:Program} {f:FuncId} {s s1 s2:HSpec} (h1:SOK P f s1) (h2:SOK P f s2) (h:∀vs bl v bl',s vs bl=some (true,v,bl')→s1 vs bl=some (true,v,bl')∨s2 vs bl=some (true,v,bl')):SOK P f s:=
 ⟨h1.enter,fun vs bl v bl' hs=>(h vs bl v bl' hs).elim (h1.run vs bl v bl') (h2.run vs bl v bl')⟩
def fq (a b:Int):Int:=if 0≤b then a/b else (-a)/(-b)
def fr (a b:Int):Int:=a-b*fq a b
theorem L0 {A B:Int} (hB:0<B):(-A)/B=if A%B=0 then -(A/B) else -(A/B)-1:=by
 have e:=Int.mul_ediv_add_emod A B
 have m0:=Int.emod_nonneg A (show B≠0 by omega)
 have m1:=Int.emod_lt_of_pos A hB
 split
 ·rename_i h
  have: -A=0+B*(-(A/B)):=by rw [Int.mul_neg]; omega
  rw [this,Int.add_mul_ediv_left _ _ (by omega),Int.zero_ediv,Int.zero_add]
 ·rename_i h
  have: -A=(B-A%B)+B*(-(A/B)-1):=by rw [Int.mul_sub,Int.mul_neg,Int.mul_one]; omega
  rw [this,Int.add_mul_ediv_left _ _ (by omega),Int.ediv_eq_zero_of_lt (by omega) (by omega),Int.zero_add]
theorem Nt (na nb:Bool) {A B:Int} (hA:0≤A) (hB:0<B):fq (bif na then -A else A) (bif nb then -B else B)=bif na==nb then A/B else (if A%B=0 then -(A/B) else -(A/B)-1):=by
 unfold fq
 cases na<;>cases nb<;>simp only [cond_true,cond_false]
 ·rw [if_pos (by omega)]; rfl
 ·rw [if_neg (by omega),Int.neg_neg,L0 hB]; rfl
 ·rw [if_pos (by omega),L0 hB]; rfl
 ·rw [if_neg (by omega),Int.neg_neg,Int.neg_neg]; rfl
theorem Rt (na nb:Bool) {A B:Int} (hA:0≤A) (hB:0<B):fr (bif na then -A else A) (bif nb then -B else B)=bif na==nb then (bif na then -(A%B) else A%B) else (if A%B=0 then 0 else (bif na then -(A%B) else A%B)+(bif nb then -B else B)):=by
 unfold fr
 rw [Nt na nb hA hB]
 have e:=Int.mul_ediv_add_emod A B
 cases na<;>cases nb<;>simp only [cond_true,cond_false]<;>(try (show _=_))<;>first|(simp only [show (false==false)=true from rfl,show (true==true)=true from rfl,cond_true,Int.neg_mul,Int.mul_neg,Int.neg_neg]; omega)|(simp only [show (false==true)=false from rfl,show (true==false)=false from rfl,cond_false]; split<;>simp only [Int.neg_mul,Int.mul_neg,Int.mul_sub,Int.mul_one,Int.neg_neg]<;>omega)
theorem ivb (n:Bool) {v:Int} (h:0≤v):(n&& !(v==0))=decide ((bif n then -v else v)<0):=by
 cases n with
 |false=>rw [Bool.false_and,cond_false,dfalse (by omega)]
 | true=>
  rw [Bool.true_and,cond_true]
  by_cases h0:v=0
  ·subst h0; rfl
  ·rw [dtrue (show -v<0 by omega)]
   have:(v==0)=false:=by rw [beq_eq_false_iff_ne]; exact h0
   rw [this]; rfl
theorem ivn (n:Bool) {v:Int} (h:0≤v):(((bif n then -v else v).natAbs:Nat):Int)=v:=by
 cases n<;>simp only [cond_true,cond_false]<;>omega
theorem LN (n:Bool) {v:Int} (h:0≤v):vld (n&& !(v==0)) (str (enc v))=true:=by
 have:=JX (bif n then -v else v)
 rwa [ivn n h,←ivb n h] at this
theorem Nb (n:Bool) {v:Int} (h:0≤v):vl (n&& !(v==0)) (str (enc v))=bif n then -v else v:=by
 have:=Lz (bif n then -v else v)
 rwa [ivn n h,←ivb n h] at this
theorem Jb {v:Int} (h:0≤v):((str (enc v)).toList==(⟨#[]⟩:ByteArray).toList)=(v==0):=by
 rw [←HI h]; exact HY (enc v)
theorem QW {n m:Nat} {a b:Int} (ha:0≤a) (ha':a<pw n) (hb:0≤b) (hb':b<pw m) (h:b≤a):tl (dg m b)≤tl (dg n a):=by
 cases ht:tl (dg m b) with
 |zero=>exact Nat.zero_le _
 | succ k=>
  have h1:=QX (Gn m b) ht
  rw [I0 m b hb hb'] at h1
  have h2:=Ii ha ha'
  refine Nat.lt_of_not_le fun hz=> ?_
  have:=Hh hz
  omega
theorem Pj {m:Nat} {b:Int} (hb:0<b) (hb':b<pw m):1≤tl (dg m b)∧0<(dg m b).getD (0+(tl (dg m b)-1)) 0:=by
 cases ht:tl (dg m b) with
 | zero=>
  have:=(MC (Gn m b)).1 ht
  rw [I0 m b (by omega) hb'] at this
  omega
 | succ k=>
  have h1:=QX (Gn m b) ht
  rw [I0 m b (by omega) hb'] at h1
  have h2:=Ii (Int.le_of_lt hb) hb'
  rw [ht,GS] at h2
  have h3:=Hz (dg m b)
  rw [Di] at h3
  have hp:=Gd k
  refine ⟨by omega,?_⟩
  rw [show k+1-1=k by omega,Nat.zero_add,MN (by omega)]
  have a1:b/pw k<4294967296:=Int.ediv_lt_of_lt_mul hp h2
  have a0:1≤b/pw k:=(Int.le_ediv_iff_mul_le hp).2 (by omega)
  omega
end Go.Proofs.YtphlckkbihmlnaaGreatDoor.G
end
