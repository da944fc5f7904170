/- A part of what the law's proof leans on. PACKED BY pack.py of this repo. -/
import Derived.Test.YtpejalpgficopaaGreatDoorF9
set_option linter.unusedVariables false
set_option linter.unusedSimpArgs false
set_option linter.unusedSectionVars false
set_option linter.defProp false
set_option maxRecDepth 100000
open Go.IntKind (i64 u64 u32)
section
namespace Go.Proofs.YtpejalpgficopaaGreatDoor.G
open Go Go.Proofs RX
theorem rsingle.run (oa la ca:Nat) (xs:List Int):xfn Tryz.prog ⟨[],[],[]⟩ [(0,single.t)] 10 Tryz.f204 [.slice (some ⟨0,oa,none⟩) la ca] [.is .u32 xs 64]=
 bif single.ok oa la 0 (i64.wrap (((la:Nat):Int)-1)) xs then some ((Value.int u64 (nv (seg xs oa la)),[Blk.is u32 xs 64])) else none:=by kernel_rfl
def rsingle.run0:=fun oa la ca xs h0=>((rsingle.run oa la ca xs).ct h0)
theorem rsmall.run (oa la ca:Nat) (xs:List Int) (dv:Int):xfnN Tryz.prog ⟨[(205,E2.sp)],[(227,Tryz.f227)],[]⟩ [(0,small.t)] 10 Tryz.f215 [.slice (some ⟨0,oa,none⟩) la ca,.int .u32 dv] [.is .u32 xs 64] [65]=
 bif decide (0≤((la:Nat):Int))&&(decide (((la:Nat):Int)≤((la:Nat):Int))&&(decide (((la:Nat):Int)≤140737488355328)&&decide (((3+1:Nat):Int)*((la:Nat):Int)≤140737488355328))) then bif small.ok oa la dv (((la:Nat):Int)).toNat 0 (i64.wrap (((la:Nat):Int)-1)) xs (List.replicate ((((la:Nat):Int)).toNat*1) 0) then bif trim.ok 0 (((la:Nat):Int)).toNat (((la:Nat):Int)).toNat (dg la (nv (seg xs oa la)/dv)) then some ((Value.tuple ⟨[Value.slice (some {block:=65,off:=0}) (tl (seg (dg la (nv (seg xs oa la)/dv)) 0 (((la:Nat):Int)).toNat)) (((la:Nat):Int)).toNat,Value.int u32 (nv (seg xs oa la)%dv)]⟩,[Blk.is u32 xs 64,Blk.is u32 (dg la (nv (seg xs oa la)/dv)) 64])) else none else none else none:=by kernel_rfl
def rsmall.run0:=fun oa la ca xs dv h0 h1 h2=>((((rsmall.run oa la ca xs dv).ct h0).ct h1).ct h2)
theorem rshift.run (oa la ca:Nat) (xs:List Int) (k:Int):xfnN Tryz.prog ⟨[],[],[]⟩ [(0,shift.t)] 10 Tryz.f217 [.slice (some ⟨0,oa,none⟩) la ca,.int .i64 k] [.is .u32 xs 64] [65]=
 bif decide (0≤i64.wrap (((la:Nat):Int)+1))&&(decide (i64.wrap (((la:Nat):Int)+1)≤i64.wrap (((la:Nat):Int)+1))&&(decide (i64.wrap (((la:Nat):Int)+1)≤140737488355328)&&decide (((3+1:Nat):Int)*i64.wrap (((la:Nat):Int)+1)≤140737488355328))) then bif shift.ok k (i64.wrap (((la:Nat):Int)+1)).toNat oa la (((la:Nat):Int)) 0 xs (List.replicate ((i64.wrap (((la:Nat):Int)+1)).toNat*1) 0) then some ((Value.slice (some {block:=65,off:=0}) (i64.wrap (((la:Nat):Int)+1)).toNat (i64.wrap (((la:Nat):Int)+1)).toNat,[Blk.is u32 xs 64,Blk.is u32 (dg (la+1) (nv (seg xs oa la)*p2 k.toNat)) 64])) else none else none:=by kernel_rfl
def rshift.run0:=fun oa la ca xs k h0 h1=>(((rshift.run oa la ca xs k).ct h0).ct h1)
def single.sp:HSpec
 |[.slice (some ⟨0,oa,none⟩) la ca],[.is .u32 xs 64]=>some (Di oa la xs&&Nat.ble la 2,.int .u64 (nv (seg xs oa la)),[.is .u32 xs 64])
 |_,_=>none
theorem Lc.ok:SOK Tryz.prog 204 single.sp:=by
 refine Dl (E:=⟨[],[],[]⟩) (L:=[(0,single.t)]) ⟨Ac,Aq,Aj,Ap⟩ 10 Tryz.func204 (by decide) rfl (F2 rfl rfl single.lok) fun vs bl v bl' h=> ?_
 unfold single.sp at h
 split at h
 ·rename_i oa la ca xs
  simp only [zS,zP,zB] at h
  obtain ⟨⟨hA,hB⟩,rfl,rfl⟩:=h
  have hl:=zL hB
  refine ⟨rsingle.run0 oa la ca xs ?_,by simp [okV,Nat.blt],clo_spec 8 _ rfl,Bg rfl⟩
  rw [w64 (by omega) (by omega)]
  simp only [single.ok,zB,zD]
  exact ⟨trivial,by omega,hA,hB⟩
 ·cases h
def small.sp:HSpec
 |[.slice (some ⟨0,oa,none⟩) la ca,.int .u32 dv],[.is .u32 xs 64]=>some (Di oa la xs&&(decide (0<dv)&&decide (dv<4294967296)),.tuple ⟨[.slice (some ⟨1,0,none⟩) (tl (dg la (nv (seg xs oa la)/dv))) la,.int .u32 (nv (seg xs oa la)%dv)]⟩,[.is .u32 xs 64,.is .u32 (dg la (nv (seg xs oa la)/dv)) 64])
 |_,_=>none
theorem LY.ok:SOK Tryz.prog 215 small.sp:=by
 refine Fs (E:=⟨[(205,E2.sp)],[(227,Tryz.f227)],[]⟩) (L:=[(0,small.t)]) ⟨Aa E2.ok Ac,Bu ⟨Tryz.func227,by decide,rfl⟩ Aq,Aj,Ap⟩ 10 Tryz.func215 (by decide) rfl (F2 rfl rfl small.lok) fun vs bl v bl' h=> ?_
 unfold small.sp at h
 split at h
 ·rename_i oa la ca dv xs
  simp only [zS,zP,zB,zD] at h
  obtain ⟨⟨hA,d0,d1⟩,rfl,rfl⟩:=h
  obtain ⟨h1,h2,h3⟩:=Dy.1 hA
  have hr:=rsmall.run0 oa la ca xs dv (L3 (by omega))
  rw [Int.toNat_natCast,Nat.mul_one] at hr
  refine ⟨[65],(hr ?_ (G2 (Cw _ _) (by omega))).trans ?_,by simp [okV,Nat.blt],rfl,Bg rfl,List.nodup_cons.2 ⟨by simp,List.nodup_nil⟩,by simp⟩
  ·rw [w64 (by omega) (by omega)]
   simp only [small.ok,zB,zD,Nat.beq_eq]
   exact ⟨trivial,by omega,trivial,trivial,hA,d0,d1⟩
  ·rw [Hd]; rfl
 ·cases h
def shift.sp:HSpec
 |[.slice (some ⟨0,oa,none⟩) la ca,.int .i64 k],[.is .u32 xs 64]=>some (Di oa la xs&&(decide (0≤k)&&decide (k≤31)),.slice (some ⟨1,0,none⟩) (la+1) (la+1),[.is .u32 xs 64,.is .u32 (dg (la+1) (nv (seg xs oa la)*p2 k.toNat)) 64])
 |_,_=>none
theorem LZ.ok:SOK Tryz.prog 217 shift.sp:=by
 refine Fs (E:=⟨[],[],[]⟩) (L:=[(0,shift.t)]) ⟨Ac,Aq,Aj,Ap⟩ 10 Tryz.func217 (by decide) rfl (F2 rfl rfl shift.lok) fun vs bl v bl' h=> ?_
 unfold shift.sp at h
 split at h
 ·rename_i oa la ca k xs
  simp only [zS,zP,zB,zD] at h
  obtain ⟨⟨hA,d0,d1⟩,rfl,rfl⟩:=h
  obtain ⟨h1,h2,h3⟩:=Dy.1 hA
  have e1:i64.wrap (((la:Nat):Int)+1)=((la+1:Nat):Int):=by rw [w64 (by omega) (by omega)]; omega
  have hr:=rshift.run0 oa la ca xs k
  rw [e1,Int.toNat_natCast,Nat.mul_one] at hr
  refine ⟨[65],(hr (L3 (by omega)) ?_).trans ?_,by simp [okV,Nat.blt],rfl,Bg rfl,List.nodup_cons.2 ⟨by simp,List.nodup_nil⟩,by simp⟩
  ·simp only [shift.ok,zB,zD,Nat.beq_eq]
   exact ⟨d0,d1,trivial,trivial,trivial,trivial,hA⟩
  ·rfl
 ·cases h
def ip (us:List Int) (o k:Nat) (v:Int):List Int:=us.take o++(dg k v++us.drop (o+k))
theorem MY (us:List Int) (o:Nat) (v:Int):ip us o 0 v=us:=by simp [ip,dg]
theorem GM {us:List Int} {o k:Nat} (v:Int) (h:o+k≤us.length):(ip us o k v).length=us.length:=by simp [ip,Cw]; omega
theorem Ji {us:List Int} {o k j:Nat} (v:Int) (h:o+k≤us.length) (hj:o+k≤j):(ip us o k v).getD j 0=us.getD j 0:=by
 simp only [ip,List.getD_eq_getElem?_getD]
 rw [List.getElem?_append_right (by simp; omega),List.getElem?_append_right (by simp [Cw]; omega),List.getElem?_drop]
 congr 2
 simp [Cw]; omega
theorem LB {us:List Int} {o k:Nat} (h:o+k<us.length) (v z:Int):(ip us o k v).set (o+k) ((v/pw k+z)%4294967296)=ip us o (k+1) (v+pw k*z):=by
 unfold ip
 rw [List.set_append_right _ _ (by simp; omega),List.set_append_right _ _ (by simp [Cw]; omega)]
 have e:o+k-(us.take o).length-(dg k v).length=0:=by simp [Cw]; omega
 rw [e,List.drop_eq_getElem_cons h,List.set_cons_zero,JM k (v+pw k*z),Im,Kg,List.append_assoc]
 rfl
theorem dig_ip {us:List Int} (hd:dig us) (o k:Nat) (v:Int):dig (ip us o k v):=fun x hx=>by
 unfold ip at hx
 rcases List.mem_append.1 hx with h|h
 ·exact hd x (List.mem_of_mem_take h)
 rcases List.mem_append.1 h with h|h
 ·exact F4 k v x h
 ·exact hd x (List.mem_of_mem_drop h)
theorem ip_ip {us:List Int} {o k:Nat} (v w:Int) (h:o+k≤us.length):ip (ip us o k v) o k w=ip us o k w:=by
 have e1:(ip us o k v).take o=us.take o:=by
  unfold ip; rw [List.take_append_of_le_length (by simp; omega),List.take_take,Nat.min_self]
 have e2:(ip us o k v).drop (o+k)=us.drop (o+k):=by
  unfold ip
  rw [←List.append_assoc,List.drop_append,List.drop_of_length_le (by simp [Cw]; omega)]
  simp [Cw,Nat.min_eq_left (show o≤us.length by omega)]
 show (ip us o k v).take o++(dg k w++(ip us o k v).drop (o+k))=_
 rw [e1,e2]; rfl
theorem seg_ip {us:List Int} {o k:Nat} (v:Int) (h:o+k≤us.length):seg (ip us o k v) o k=dg k v:=by
 unfold seg ip
 rw [List.drop_append,List.drop_of_length_le (by rw [List.length_take]; omega),List.nil_append]
 rw [show o-(us.take o).length=0 by simp; omega,List.drop_zero,List.take_append_of_le_length (by rw [Cw]; exact Nat.le_refl _),List.take_of_length_le (by rw [Cw]; exact Nat.le_refl _)]
theorem Pj:∀(k:Nat) (v:Int),nv (dg k v)=v%pw k:=by
 intro k v
 have hp:=Ep k
 have h1:=Int.emod_nonneg v (show pw k≠0 by omega)
 have h2:=Int.emod_lt_of_pos v hp
 have:=Im k (v%pw k) (v/pw k)
 rw [Int.emod_add_mul_ediv] at this
 rw [this,G0 k _ h1 h2]
def qd (us:List Int) (o:Nat) (ws:List Int) (ov:Nat) (q:Int) (k:Nat):Int:=nv (seg us o k)-q*nv (seg ws ov k)
theorem Ow {us ws:List Int} {o ov k:Nat} (q:Int) (h:o+k<us.length) (h':ov+k<ws.length):qd us o ws ov q (k+1)=qd us o ws ov q k+pw k*(us.getD (o+k) 0-q*ws.getD (ov+k) 0):=by
 unfold qd
 rw [EU h,EU h',Int.mul_add,Int.mul_sub,Int.mul_left_comm q (pw k)]; omega
def qc (ws:List Int) (ov:Nat) (q:Int) (k:Nat):Int:=q*nv (seg ws ov k)/pw k
theorem qc_succ {ws:List Int} {ov k:Nat} (q:Int) (h':ov+k<ws.length):qc ws ov q (k+1)=(qc ws ov q k+q*ws.getD (ov+k) 0)/4294967296:=by
 unfold qc
 rw [EU h',Int.mul_add,Int.mul_left_comm q (pw k),FG]
theorem QW {ws:List Int} (hd:dig ws) {ov k:Nat} {q:Int} (h0:0≤q) (h:ov+k≤ws.length):0≤qc ws ov q k∧qc ws ov q k≤q:=by
 have a:=Dx (EB hd ov k)
 have b:=FF (EB hd ov k)
 rw [EL h] at b
 have hp:=Ep k
 refine ⟨Int.ediv_nonneg (Int.mul_nonneg h0 a) (by omega),?_⟩
 have:q*nv (seg ws ov k)≤q*pw k:=Int.mul_le_mul_of_nonneg_left (by omega) h0
 exact Int.le_trans (Int.ediv_le_ediv hp this) (by rw [Int.mul_ediv_cancel _ (by omega)]; exact Int.le_refl _)
theorem QV {us ws:List Int} (hd:dig us) (hd':dig ws) {o ov k:Nat} (q:Int) (h:o+k≤us.length) (h':ov+k≤ws.length): -1≤qd us o ws ov q k/pw k+qc ws ov q k∧qd us o ws ov q k/pw k+qc ws ov q k≤0:=by
 have a:=Dx (EB hd o k)
 have b:=FF (EB hd o k)
 rw [EL h] at b
 have hp:=Ep k
 have e:=Int.mul_ediv_add_emod (q*nv (seg ws ov k)) (pw k)
 have m0:=Int.emod_nonneg (q*nv (seg ws ov k)) (show pw k≠0 by omega)
 have m1:=Int.emod_lt_of_pos (q*nv (seg ws ov k)) hp
 have hs:qd us o ws ov q k/pw k+qc ws ov q k=(nv (seg us o k)-q*nv (seg ws ov k)%pw k)/pw k:=by
  unfold qd qc
  rw [←Int.add_mul_ediv_left _ _ (show pw k≠0 by omega)]
  congr 1
  omega
 rw [hs]
 constructor
 ·exact (Int.le_ediv_iff_mul_le hp).2 (by omega)
 ·have:(nv (seg us o k)-q*nv (seg ws ov k)%pw k)/pw k<1:=Int.ediv_lt_of_lt_mul hp (by omega)
  omega
def qa (v1 v2 u2:Int):Nat→Int→Int→Int
 |0,q,_=>q
 |k+1,q,r=>if 4294967296≤q∨r*4294967296+u2<q*v2 then (if 4294967296≤r+v1 then q-1 else qa v1 v2 u2 k (q-1) (r+v1)) else q
theorem J0 (v1 v2 u2:Int) (k:Nat) (q r:Int):qa v1 v2 u2 (k+1) q r=if 4294967296≤q∨r*4294967296+u2<q*v2 then (if 4294967296≤r+v1 then q-1 else qa v1 v2 u2 k (q-1) (r+v1)) else q:=rfl
theorem qa_ok {v1 v2 u2 T:Int} (h1:2147483648≤v1) (h1':v1<4294967296) (h2:0≤v2) (h2':v2<4294967296) (hu:0≤u2) (hT:T<(v1+1)*4294967296):∀(k:Nat) (q r:Int),0≤q→q≤4294967297→0≤r→r<4294967296→4294967296≤r+k*2147483648→q*v1+r=T→0≤qa v1 v2 u2 k q r∧qa v1 v2 u2 k q r<4294967296∧qa v1 v2 u2 k q r*(v1*4294967296+v2)≤T*4294967296+u2∧qa v1 v2 u2 k q r≤q
 |0,q,r,a,b,c,d,e,f=>by omega
 | k + 1,q,r,a,b,c,d,e,f=>by
  unfold qa
  have hq0:0≤q*v2:=Int.mul_nonneg a h2
  have hsp:q*(v1*4294967296+v2)=(q*v1)*4294967296+q*v2:=by rw [Int.mul_add,Int.mul_assoc]
  by_cases hc:4294967296≤q∨r*4294967296+u2<q*v2
  ·rw [if_pos hc]
   have hq1:0<q:=by
    rcases hc with hc|hc
    ·omega
    ·refine Int.lt_of_not_ge fun hz=> ?_
     have:q=0:=by omega
     subst this; omega
   have hr:(q-1)*v1+(r+v1)=T:=by rw [Int.sub_mul]; omega
   by_cases hb:4294967296≤r+v1
   ·rw [if_pos hb]
    have hlt:q-1<4294967296:=by
     refine Int.lt_of_not_ge fun hz=> ?_
     have h3:4294967296*v1≤(q-1)*v1:=Int.mul_le_mul_of_nonneg_right hz (by omega)
     rw [Int.add_mul] at hT
     omega
    refine ⟨by omega,hlt,?_,by omega⟩
    have h3:(q-1)*v2≤4294967296*4294967295:=Int.mul_le_mul (by omega) (by omega) h2 (by omega)
    have h4:(q-1)*(v1*4294967296+v2)=((q-1)*v1)*4294967296+(q-1)*v2:=by rw [Int.mul_add,Int.mul_assoc]
    omega
   ·rw [if_neg hb]
    obtain ⟨x1,x2,x3,x4⟩:=qa_ok h1 h1' h2 h2' hu hT k (q-1) (r+v1) (by omega) (by omega) (by omega) (by omega) (by rw [Int.natCast_succ,Int.add_mul] at e; omega) hr
    exact ⟨x1,x2,x3,by omega⟩
  ·rw [if_neg hc]
   exact ⟨a,by omega,by rw [hsp]; omega,Int.le_refl _⟩
theorem qa_ge {v1 v2 u2 T Q:Int} (hQ:Q<4294967296) (hQ':Q*(v1*4294967296+v2)<T*4294967296+u2+1) (hV:0≤v1*4294967296+v2):∀(k:Nat) (q r:Int),q*v1+r=T→Q≤q→Q≤qa v1 v2 u2 k q r
 |0,q,r,_,h=>h
 | k + 1,q,r,f,h=>by
  unfold qa
  have hsp:q*(v1*4294967296+v2)=(q*v1)*4294967296+q*v2:=by rw [Int.mul_add,Int.mul_assoc]
  by_cases hc:4294967296≤q∨r*4294967296+u2<q*v2
  ·rw [if_pos hc]
   have hlt:Q≤q-1:=by
    rcases hc with hc|hc
    ·omega
    ·refine Int.le_sub_one_of_lt (Int.lt_of_not_ge fun hz=> ?_)
     obtain rfl:q=Q:=by omega
     omega
   have hr:(q-1)*v1+(r+v1)=T:=by rw [Int.sub_mul]; omega
   by_cases hb:4294967296≤r+v1
   ·rw [if_pos hb]; exact hlt
   ·rw [if_neg hb]; exact qa_ge hQ hQ' hV k _ _ hr hlt
  ·rw [if_neg hc]; exact h
theorem knuth {U V P v1 v2 vl u2 T ul:Int} (hP:0<P) (h1:2147483648≤v1) (h1':v1<4294967296) (h2:0≤v2) (h2':v2<4294967296) (hu:0≤u2) (hu':u2<4294967296) (hV:V=(v1*4294967296+v2)*P+vl) (hvl:0≤vl) (hvl':vl<P) (hU:U=(T*4294967296+u2)*P+ul) (hul:0≤ul) (hul':ul<P) (hT:0≤T) (hlt:U<V*4294967296):
  U/V≤qa v1 v2 u2 2 (T/v1) (T%v1)∧qa v1 v2 u2 2 (T/v1) (T%v1)≤U/V+1∧0≤qa v1 v2 u2 2 (T/v1) (T%v1)∧qa v1 v2 u2 2 (T/v1) (T%v1)<4294967296∧T/v1≤4294967297:=by
 have hvh:0<v1*4294967296+v2:=by omega
 have hV0:(v1*4294967296+v2)*P≤V:=by omega
 have hVp:0<V:=Int.lt_of_lt_of_le (Int.mul_pos hvh hP) hV0
 have e:=Int.mul_ediv_add_emod U V
 have m0:=Int.emod_nonneg U (show V≠0 by omega)
 have hQlt:U/V<4294967296:=Int.ediv_lt_of_lt_mul hVp (by rw [Int.mul_comm]; exact hlt)
 have hU0:0≤U:=by
  have:0≤(T*4294967296+u2)*P:=Int.mul_nonneg (by omega) (by omega)
  omega
 have hQ0:0≤U/V:=Int.ediv_nonneg hU0 (by omega)
 have hQV:(U/V)*(v1*4294967296+v2)<T*4294967296+u2+1:=by
  refine Int.lt_of_mul_lt_mul_right (a:=P) ?_ (by omega)
  have:(U/V)*((v1*4294967296+v2)*P)≤(U/V)*V:=Int.mul_le_mul_of_nonneg_left hV0 hQ0
  rw [Int.mul_assoc,Int.add_mul (T*4294967296+u2),Int.one_mul]
  rw [Int.mul_comm V] at e
  omega
 have hTlt:T<(v1+1)*4294967296:=by
  refine Int.lt_of_not_ge fun hz=> ?_
  have a1:(v1+1)*4294967296*4294967296*P≤(T*4294967296+u2)*P:=Int.mul_le_mul_of_nonneg_right (by omega) (by omega)
  have a2:V<(v1+1)*4294967296*P:=by
   have:(v1*4294967296+v2+1)*P≤((v1+1)*4294967296)*P:=Int.mul_le_mul_of_nonneg_right (by omega) (by omega)
   rw [Int.add_mul (v1*4294967296+v2),Int.one_mul] at this
   omega
  have a3:(v1+1)*4294967296*4294967296*P=(v1+1)*4294967296*P*4294967296:=by rw [Int.mul_assoc _ 4294967296 P,Int.mul_comm 4294967296 P,←Int.mul_assoc]
  omega
 have r0:=Int.emod_nonneg T (show v1≠0 by omega)
 have r1:=Int.emod_lt_of_pos T (show 0<v1 by omega)
 have eT:T/v1*v1+T%v1=T:=by rw [Int.mul_comm]; exact Int.mul_ediv_add_emod _ _
 have q0:0≤T/v1:=Int.ediv_nonneg hT (by omega)
 have q1:T/v1≤4294967297:=by
  refine Int.le_of_lt_add_one (Int.ediv_lt_of_lt_mul (by omega) ?_)
  rw [Int.add_mul] at hTlt
  omega
 have hge:U/V≤T/v1:=by
  refine (Int.le_ediv_iff_mul_le (by omega)).2 ?_
  have:(U/V)*(v1*4294967296+v2)=((U/V)*v1)*4294967296+(U/V)*v2:=by rw [Int.mul_add,Int.mul_assoc]
  have:0≤(U/V)*v2:=Int.mul_nonneg hQ0 h2
  omega
 obtain ⟨x1,x2,x3,x4⟩:=qa_ok h1 h1' h2 h2' hu hTlt 2 (T/v1) (T%v1) q0 q1 r0 (by omega) (by omega) eT
 have hg:=qa_ge hQlt hQV (by omega) 2 (T/v1) (T%v1) eT hge
 refine ⟨hg,?_,x1,x2,q1⟩
 clear x4 q1 hg hge eT
 generalize qa v1 v2 u2 2 (T/v1) (T%v1)=q at*
 have b1:q*((v1*4294967296+v2)*P)≤U:=by
  have:q*(v1*4294967296+v2)*P≤(T*4294967296+u2)*P:=Int.mul_le_mul_of_nonneg_right x3 (by omega)
  rw [Int.mul_assoc] at this
  omega
 have b2:(q-1)*V≤U:=by
  have c1:q*V=q*((v1*4294967296+v2)*P)+q*vl:=by rw [hV,Int.mul_add]
  have c2:q*vl≤4294967296*P:=Int.mul_le_mul (by omega) (by omega) hvl (by omega)
  have c3:4294967296*P≤(v1*4294967296+v2)*P:=Int.mul_le_mul_of_nonneg_right (by omega) (by omega)
  rw [Int.sub_mul,Int.one_mul]
  omega
 have:=(Int.le_ediv_iff_mul_le hVp).2 b2
 omega
section
variable {N:Nat→Prop} {xe:X} {Se:St} (o lu cu ov lw cw:Nat) (n q r:Int) (us:List Int) (tu:TypeId) (ws:List Int) (tw:TypeId)
abbrev dg0.st:St:=⟨gbuild [(0,.slice (some ⟨0,o,none⟩) lu cu),(1,.slice (some ⟨1,ov,none⟩) lw cw),(5,.int .i64 n),(7,.int .u64 q),(8,.int .u64 r)] 0 159,[(0,.is .u32 us tu),(1,.is .u32 ws tw)],578⟩
abbrev dg0.lk:=RX.lk [0,1,5,7,8] [0,1]
theorem dg0.rnd:rd Tryz.prog ⟨[],[],[]⟩ [] 3 (Ay Tryz.f218 0) (dg0.st o lu cu ov lw cw n q r us tu ws tw) 159 [0,1,5,7,8] [0,1]=
 bif decide (q≥4294967296) then bif decide (0≤i64.wrap (n-1))&&decide (i64.wrap (n-1)<((lw:Nat):Int)) then bif (ov+(i64.wrap (n-1)).toNat*1).blt ws.length then bif decide (u64.wrap (r+u64.wrap (ws.getD (ov+(i64.wrap (n-1)).toNat*1) 0))≥4294967296) then some ((X.exit 0,[Value.slice (some {block:=0,off:=o}) lu cu,Value.slice (some {block:=1,off:=ov}) lw cw,Value.int i64 n,Value.int u64 (u64.wrap (q-1)),Value.int u64 (u64.wrap (r+u64.wrap (ws.getD (ov+(i64.wrap (n-1)).toNat*1) 0)))],[some (Blk.is u32 us tu),some (Blk.is u32 ws tw)])) else dg0.lk .normal (dg0.st o lu cu ov lw cw n (u64.wrap (q-1)) (u64.wrap (r+u64.wrap (ws.getD (ov+(i64.wrap (n-1)).toNat*1) 0))) us tu ws tw) else none else none else bif decide (0≤i64.wrap (n-2))&&decide (i64.wrap (n-2)<((lw:Nat):Int)) then bif (ov+(i64.wrap (n-2)).toNat*1).blt ws.length then bif decide (0≤i64.wrap (n-2))&&decide (i64.wrap (n-2)<((lu:Nat):Int)) then bif (o+(i64.wrap (n-2)).toNat*1).blt us.length then bif decide (u64.wrap (q*u64.wrap (ws.getD (ov+(i64.wrap (n-2)).toNat*1) 0))>E6 BinOp.or u64 (u64.wrap (r*2^min (Int.toNat 32) u64.bits)) (u64.wrap (us.getD (o+(i64.wrap (n-2)).toNat*1) 0))) then bif decide (0≤i64.wrap (n-1))&&decide (i64.wrap (n-1)<((lw:Nat):Int)) then bif (ov+(i64.wrap (n-1)).toNat*1).blt ws.length then bif decide (u64.wrap (r+u64.wrap (ws.getD (ov+(i64.wrap (n-1)).toNat*1) 0))≥4294967296) then some ((X.exit 0,[Value.slice (some {block:=0,off:=o}) lu cu,Value.slice (some {block:=1,off:=ov}) lw cw,Value.int i64 n,Value.int u64 (u64.wrap (q-1)),Value.int u64 (u64.wrap (r+u64.wrap (ws.getD (ov+(i64.wrap (n-1)).toNat*1) 0)))],[some (Blk.is u32 us tu),some (Blk.is u32 ws tw)])) else dg0.lk .normal (dg0.st o lu cu ov lw cw n (u64.wrap (q-1)) (u64.wrap (r+u64.wrap (ws.getD (ov+(i64.wrap (n-1)).toNat*1) 0))) us tu ws tw) else none else none else some ((X.exit 0,[Value.slice (some {block:=0,off:=o}) lu cu,Value.slice (some {block:=1,off:=ov}) lw cw,Value.int i64 n,Value.int u64 q,Value.int u64 r],[some (Blk.is u32 us tu),some (Blk.is u32 ws tw)])) else none else none else none else none:=by kernel_rfl
def dg0.stop0:=fun h0 h1 h2 h3=>Lq.stop (S2:=⟨gbuild [(0,Value.slice (some {block:=0,off:=o}) lu cu),(1,Value.slice (some {block:=1,off:=ov}) lw cw),(5,Value.int i64 n),(7,Value.int u64 (u64.wrap (q-1)))] 0 159,[(0,Blk.is u32 us tu),(1,Blk.is u32 ws tw)],578⟩) (N:=N) (f:=3) ⟨Ac,Aq,Aj,Ap⟩ Bs (((((dg0.rnd o lu cu ov lw cw n q r us tu ws tw).ct h0).ct h1).ct h2).ct h3) (fun q=>by cases q) (fun h=>q_of (.cons ⟨rfl,(bslice (zL rfl))⟩ (.cons ⟨rfl,(bslice (zL rfl))⟩ (.cons ⟨rfl,bint⟩ (.cons ⟨rfl,bint⟩ .nil)))) (.cons ⟨rfl,(zL rfl),rfl⟩ (.cons ⟨rfl,(zL rfl),rfl⟩ .nil)))
def dg0.step1:=fun h0 h1 h2 h3 (ih:Lq Tryz.prog N (Ay Tryz.f218 0) _ xe Se)=>Lq.to (f:=3) ⟨Ac,Aq,Aj,Ap⟩ Bs (((((dg0.rnd o lu cu ov lw cw n q r us tu ws tw).ct h0).ct h1).ct h2).cf h3) rfl ih
def dg0.stop2:=fun h0 h1 h2 h3 h4 h5 h6 h7 h8=>Lq.stop (S2:=⟨gbuild [(0,Value.slice (some {block:=0,off:=o}) lu cu),(1,Value.slice (some {block:=1,off:=ov}) lw cw),(5,Value.int i64 n),(7,Value.int u64 (u64.wrap (q-1)))] 0 159,[(0,Blk.is u32 us tu),(1,Blk.is u32 ws tw)],578⟩) (N:=N) (f:=3) ⟨Ac,Aq,Aj,Ap⟩ Bs ((((((((((dg0.rnd o lu cu ov lw cw n q r us tu ws tw).cf h0).ct h1).ct h2).ct h3).ct h4).ct h5).ct h6).ct h7).ct h8) (fun q=>by cases q) (fun h=>q_of (.cons ⟨rfl,(bslice (zL rfl))⟩ (.cons ⟨rfl,(bslice (zL rfl))⟩ (.cons ⟨rfl,bint⟩ (.cons ⟨rfl,bint⟩ .nil)))) (.cons ⟨rfl,(zL rfl),rfl⟩ (.cons ⟨rfl,(zL rfl),rfl⟩ .nil)))
def dg0.step3:=fun h0 h1 h2 h3 h4 h5 h6 h7 h8 (ih:Lq Tryz.prog N (Ay Tryz.f218 0) _ xe Se)=>Lq.to (f:=3) ⟨Ac,Aq,Aj,Ap⟩ Bs ((((((((((dg0.rnd o lu cu ov lw cw n q r us tu ws tw).cf h0).ct h1).ct h2).ct h3).ct h4).ct h5).ct h6).ct h7).cf h8) rfl ih
def dg0.stop4:=fun h0 h1 h2 h3 h4 h5=>Lq.stop (S2:=⟨gbuild [(0,Value.slice (some {block:=0,off:=o}) lu cu),(1,Value.slice (some {block:=1,off:=ov}) lw cw),(5,Value.int i64 n),(7,Value.int u64 q)] 0 159,[(0,Blk.is u32 us tu),(1,Blk.is u32 ws tw)],578⟩) (N:=N) (f:=3) ⟨Ac,Aq,Aj,Ap⟩ Bs (((((((dg0.rnd o lu cu ov lw cw n q r us tu ws tw).cf h0).ct h1).ct h2).ct h3).ct h4).cf h5) (fun q=>by cases q) (fun h=>q_of (.cons ⟨rfl,(bslice (zL rfl))⟩ (.cons ⟨rfl,(bslice (zL rfl))⟩ (.cons ⟨rfl,bint⟩ (.cons ⟨rfl,bint⟩ .nil)))) (.cons ⟨rfl,(zL rfl),rfl⟩ (.cons ⟨rfl,(zL rfl),rfl⟩ .nil)))
end
section
variable {N:Nat→Prop} {xe:X} {Se:St} (o lu cu op lp cp:Nat) (n q c b:Int) (ov lw cw:Nat) (z i:Int) (us:List Int) (tu:TypeId) (ws:List Int) (tw:TypeId) (nx:Nat)
abbrev dg1.st:St:=⟨gbuild [(0,.slice (some ⟨0,o,none⟩) lu cu),(1,.slice (some ⟨1,op,none⟩) lp cp),(5,.int .i64 n),(7,.int .u64 q),(9,.int .u64 c),(10,.int .u32 b),(81,.slice (some ⟨1,ov,none⟩) lw cw),(82,.int .i64 z),(83,.int .i64 i)] 0 159,[(0,.is .u32 us tu),(1,.is .u32 ws tw)],nx⟩
abbrev dg1.lk:=RX.lk [0,1,5,7,9,10,81,82,83] [0,1]
theorem dg1.rnd:rd Tryz.prog ⟨[],[(208,Tryz.f208)],[]⟩ [] 5 (Ay Tryz.f218 2) (dg1.st o lu cu op lp cp n q c b ov lw cw z i us tu ws tw nx) 159 [0,1,5,7,9,10,81,82,83] [0,1]=
 bif decide (i<z) then bif decide (0≤i)&&decide (i<((lw:Nat):Int)) then bif (ov+i.toNat*1).blt ws.length then bif decide (0≤i)&&decide (i<((lu:Nat):Int)) then bif (o+i.toNat*1).blt us.length then bif decide (0≤i)&&decide (i<((lu:Nat):Int)) then bif (o+i.toNat*1).blt us.length then dg1.lk .normal (dg1.st o lu cu op lp cp n q ((u64.wrap (c+u64.wrap (q*u64.wrap (ws.getD (ov+i.toNat*1) 0)))).fdiv (2^min (Int.toNat 32) u64.bits)) ((E6 BinOp.or u32 (E6 BinOp.and u32 (E6 BinOp.xor u32 (if u32.signed=true then -1 else u32.max) (us.getD (o+i.toNat*1) 0)) (u32.wrap (u64.wrap (c+u64.wrap (q*u64.wrap (ws.getD (ov+i.toNat*1) 0)))))) (E6 BinOp.and u32 (E6 BinOp.xor u32 (if u32.signed=true then -1 else u32.max) (E6 BinOp.xor u32 (us.getD (o+i.toNat*1) 0) (u32.wrap (u64.wrap (c+u64.wrap (q*u64.wrap (ws.getD (ov+i.toNat*1) 0))))))) (u32.wrap (u32.wrap (us.getD (o+i.toNat*1) 0-u32.wrap (u64.wrap (c+u64.wrap (q*u64.wrap (ws.getD (ov+i.toNat*1) 0)))))-b)))).fdiv (2^min (Int.toNat 31) u32.bits)) ov lw cw z (i64.wrap (i+1)) (us.set (o+i.toNat*1) (u32.wrap (u32.wrap (us.getD (o+i.toNat*1) 0-u32.wrap (u64.wrap (c+u64.wrap (q*u64.wrap (ws.getD (ov+i.toNat*1) 0)))))-b))) tu ws tw nx) else none else none else none else none else none else none else dg1.lk (.exit 2) (dg1.st o lu cu op lp cp n q c b ov lw cw z i us tu ws tw nx):=by kernel_rfl
def dg1.step0:=fun h0 h1 h2 h3 h4 h5 h6 (ih:Lq Tryz.prog N (Ay Tryz.f218 2) _ xe Se)=>Lq.toK (f:=5) ⟨Ac,Bu ⟨Tryz.func208,by decide,rfl⟩ Aq,Aj,Ap⟩ Bs ((((((((dg1.rnd o lu cu op lp cp n q c b ov lw cw z i us tu ws tw nx).ct h0).ct h1).ct h2).ct h3).ct h4).ct h5).ct h6) rfl rfl ih
def dg1.stop1:=fun h0=>Lq.endK (N:=N) (f:=5) ⟨Ac,Bu ⟨Tryz.func208,by decide,rfl⟩ Aq,Aj,Ap⟩ Bs ((dg1.rnd o lu cu op lp cp n q c b ov lw cw z i us tu ws tw nx).cf h0) (fun q=>by cases q) rfl rfl
end
section
variable {N:Nat→Prop} {xe:X} {Se:St} (o lu cu:Nat) (n q b:Int) (ov lw cw:Nat) (z i:Int) (us:List Int) (tu:TypeId) (ws:List Int) (tw:TypeId) (nx:Nat)
abbrev dg2.st:St:=⟨gbuild [(0,.slice (some ⟨0,o,none⟩) lu cu),(5,.int .i64 n),(7,.int .u64 q),(13,.int .u32 b),(129,.slice (some ⟨1,ov,none⟩) lw cw),(130,.int .i64 z),(131,.int .i64 i)] 0 159,[(0,.is .u32 us tu),(1,.is .u32 ws tw)],nx⟩
abbrev dg2.lk:=RX.lk [0,5,7,13,129,130,131] [0,1]
theorem dg2.rnd:rd Tryz.prog ⟨[],[(207,Tryz.f207)],[]⟩ [] 5 (Ay Tryz.f218 4) (dg2.st o lu cu n q b ov lw cw z i us tu ws tw nx) 159 [0,5,7,13,129,130,131] [0,1]=
 bif decide (i<z) then bif decide (0≤i)&&decide (i<((lw:Nat):Int)) then bif (ov+i.toNat*1).blt ws.length then bif decide (0≤i)&&decide (i<((lu:Nat):Int)) then bif (o+i.toNat*1).blt us.length then bif decide (0≤i)&&decide (i<((lu:Nat):Int)) then bif (o+i.toNat*1).blt us.length then dg2.lk .normal (dg2.st o lu cu n q (u32.wrap ((u64.wrap (u64.wrap (u64.wrap (us.getD (o+i.toNat*1) 0)+u64.wrap (ws.getD (ov+i.toNat*1) 0))+u64.wrap b)).fdiv (2^min (Int.toNat 32) u64.bits))) ov lw cw z (i64.wrap (i+1)) (us.set (o+i.toNat*1) (u32.wrap (u64.wrap (u64.wrap (u64.wrap (us.getD (o+i.toNat*1) 0)+u64.wrap (ws.getD (ov+i.toNat*1) 0))+u64.wrap b)))) tu ws tw nx) else none else none else none else none else none else none else dg2.lk (.exit 4) (dg2.st o lu cu n q b ov lw cw z i us tu ws tw nx):=by kernel_rfl
def dg2.step0:=fun h0 h1 h2 h3 h4 h5 h6 (ih:Lq Tryz.prog N (Ay Tryz.f218 4) _ xe Se)=>Lq.toK (f:=5) ⟨Ac,Bu ⟨Tryz.func207,by decide,rfl⟩ Aq,Aj,Ap⟩ Bs ((((((((dg2.rnd o lu cu n q b ov lw cw z i us tu ws tw nx).ct h0).ct h1).ct h2).ct h3).ct h4).ct h5).ct h6) rfl rfl ih
def dg2.stop1:=fun h0=>Lq.endK (N:=N) (f:=5) ⟨Ac,Bu ⟨Tryz.func207,by decide,rfl⟩ Aq,Aj,Ap⟩ Bs ((dg2.rnd o lu cu n q b ov lw cw z i us tu ws tw nx).cf h0) (fun q=>by cases q) rfl rfl
end
abbrev qa2 (us:List Int) (o:Nat) (ws:List Int) (ov lw:Nat) (k:Nat) (q r:Int):Int:=qa (ws.getD (ov+(lw-1)) 0) (ws.getD (ov+(lw-2)) 0) (us.getD (o+(lw-2)) 0) k q r
abbrev dg0.fin (o lu cu ov lw cw:Nat) (n q:Int) (us:List Int) (tu:TypeId) (ws:List Int) (tw:TypeId):St:=⟨gbuild [(0,Value.slice (some {block:=0,off:=o}) lu cu),(1,Value.slice (some {block:=1,off:=ov}) lw cw),(5,Value.int i64 n),(7,Value.int u64 q)] 0 159,[(0,Blk.is u32 us tu),(1,Blk.is u32 ws tw)],578⟩
def dg0.ok (o lu ov lw:Nat) (n q r:Int) (us ws:List Int):Bool:=decide (n=(lw:Int))&&(Nat.ble 2 lw&&(Nat.ble (lw+1) lu&&(Di o lu us&&(Di ov lw ws&&(decide (2147483648≤ws.getD (ov+(lw-1)) 0)&&(decide (0≤q)&&(decide (q≤4294967297)&&(decide (0≤r)&&decide (r<4294967296)))))))))
def dg0.lt (o lu cu ov lw cw:Nat) (n q r:Int) (us:List Int) (tu:TypeId) (ws:List Int) (tw:TypeId):LT:= .got (dg0.ok o lu ov lw n q r us ws) (.exit 0) (dg0.fin o lu cu ov lw cw n (qa2 us o ws ov lw 2 q r) us tu ws tw)
theorem dg0.go {N:Nat→Prop} (o lu cu ov lw cw:Nat) (us:List Int) (tu:TypeId) (ws:List Int) (tw:TypeId) (hn:2≤lw) (hl:lw+1≤lu) (h1:o+lu≤us.length) (h2:ov+lw≤ws.length) (hb:lw≤4294967296) (hx:dig us) (hy:dig ws) (hv:2147483648≤ws.getD (ov+(lw-1)) 0):∀(k:Nat) (q r:Int),0≤q→q≤4294967297→0≤r→r<4294967296→4294967296≤r+k*2147483648→Lq Tryz.prog N (Ay Tryz.f218 0) (dg0.st o lu cu ov lw cw (lw:Int) q r us tu ws tw) (.exit 0) (dg0.fin o lu cu ov lw cw (lw:Int) (qa2 us o ws ov lw k q r) us tu ws tw)
 |0,q,r,a,b,c,d,e=>by omega
 | k + 1,q,r,a,b,c,d,e=>by
  have w1:i64.wrap ((lw:Int)-1)=((lw-1:Nat):Int):=by rw [w64 (by omega) (by omega)]; omega
  have w2:i64.wrap ((lw:Int)-2)=((lw-2:Nat):Int):=by rw [w64 (by omega) (by omega)]; omega
  have e1:ov+(((lw-1:Nat):Int)).toNat*1=ov+(lw-1):=by simp
  have e2:ov+(((lw-2:Nat):Int)).toNat*1=ov+(lw-2):=by simp
  have e3:o+(((lw-2:Nat):Int)).toNat*1=o+(lw-2):=by simp
  have V1:=EF hy (ov+(lw-1))
  have V2:=EF hy (ov+(lw-2))
  have U2:=EF hx (o+(lw-2))
  have c1:(decide (0≤i64.wrap ((lw:Int)-1))&&decide (i64.wrap ((lw:Int)-1)<((lw:Nat):Int)))=true:=by rw [w1]; exact dtrue2 (by omega) (by omega)
  have c2:((ov+(i64.wrap ((lw:Int)-1)).toNat*1).blt ws.length)=true:=by rw [w1,e1]; exact EM (by omega)
  have c3:(decide (0≤i64.wrap ((lw:Int)-2))&&decide (i64.wrap ((lw:Int)-2)<((lw:Nat):Int)))=true:=by rw [w2]; exact dtrue2 (by omega) (by omega)
  have c4:((ov+(i64.wrap ((lw:Int)-2)).toNat*1).blt ws.length)=true:=by rw [w2,e2]; exact EM (by omega)
  have c5:(decide (0≤i64.wrap ((lw:Int)-2))&&decide (i64.wrap ((lw:Int)-2)<((lu:Nat):Int)))=true:=by rw [w2]; exact dtrue2 (by omega) (by omega)
  have c6:((o+(i64.wrap ((lw:Int)-2)).toNat*1).blt us.length)=true:=by rw [w2,e3]; exact EM (by omega)
  have hq0:0≤q*ws.getD (ov+(lw-2)) 0:=Int.mul_nonneg a V2.1
  have er:u64.wrap (r+u64.wrap (ws.getD (ov+(i64.wrap ((lw:Int)-1)).toNat*1) 0))=r+ws.getD (ov+(lw-1)) 0:=by
   rw [w1,e1,u64of (n:=ws.getD (ov+(lw-1)) 0) V1.1 (by omega),u64of (by omega) (by omega)]
  by_cases k1:4294967296≤q
  ·have eq:u64.wrap (q-1)=q-1:=u64of (by omega) (by omega)
   by_cases k2:4294967296≤r+ws.getD (ov+(lw-1)) 0
   ·have:=dg0.stop0 (N:=N) o lu cu ov lw cw (lw:Int) q r us tu ws tw (dtrue k1) c1 c2 (by rw [er]; exact dtrue k2)
    rw [eq] at this
    have hqa:qa2 us o ws ov lw (k+1) q r=q-1:=by show qa _ _ _ (k+1) q r=_; rw [J0,if_pos (Or.inl k1),if_pos k2]
    rw [hqa]; exact this
   ·refine dg0.step1 (N:=N) o lu cu ov lw cw (lw:Int) q r us tu ws tw (dtrue k1) c1 c2 (by rw [er]; exact dfalse k2) ?_
    have hqa:qa2 us o ws ov lw (k+1) q r=qa2 us o ws ov lw k (q-1) (r+ws.getD (ov+(lw-1)) 0):=by show qa _ _ _ (k+1) q r=_; rw [J0,if_pos (Or.inl k1),if_neg k2]
    rw [hqa,er,eq]
    exact dg0.go o lu cu ov lw cw us tu ws tw hn hl h1 h2 hb hx hy hv k _ _ (by omega) (by omega) (by omega) (by omega) (by rw [Int.natCast_succ,Int.add_mul] at e; omega)
  ·have hqm:q*ws.getD (ov+(lw-2)) 0≤4294967295*4294967295:=Int.mul_le_mul (by omega) (by omega) V2.1 (by omega)
   have em:u64.wrap (q*u64.wrap (ws.getD (ov+(i64.wrap ((lw:Int)-2)).toNat*1) 0))=q*ws.getD (ov+(lw-2)) 0:=by
    rw [w2,e2,u64of (n:=ws.getD (ov+(lw-2)) 0) V2.1 (by omega),u64of hq0 (by omega)]
   have eo:E6 BinOp.or u64 (u64.wrap (r*2^min (Int.toNat 32) u64.bits)) (u64.wrap (us.getD (o+(i64.wrap ((lw:Int)-2)).toNat*1) 0))=us.getD (o+(lw-2)) 0+4294967296*r:=by
    rw [w2,e3]; exact ND U2.1 U2.2 c d
   by_cases k3:r*4294967296+us.getD (o+(lw-2)) 0<q*ws.getD (ov+(lw-2)) 0
   ·have hq1:0<q:=by
     refine Int.lt_of_not_ge fun hz=> ?_
     have:q=0:=by omega
     subst this; omega
    have eq:u64.wrap (q-1)=q-1:=u64of (by omega) (by omega)
    have cc:(decide (u64.wrap (q*u64.wrap (ws.getD (ov+(i64.wrap ((lw:Int)-2)).toNat*1) 0))>E6 BinOp.or u64 (u64.wrap (r*2^min (Int.toNat 32) u64.bits)) (u64.wrap (us.getD (o+(i64.wrap ((lw:Int)-2)).toNat*1) 0))))=true:=by rw [em,eo]; exact dtrue (by omega)
    by_cases k2:4294967296≤r+ws.getD (ov+(lw-1)) 0
    ·have:=dg0.stop2 (N:=N) o lu cu ov lw cw (lw:Int) q r us tu ws tw (dfalse k1) c3 c4 c5 c6 cc c1 c2 (by rw [er]; exact dtrue k2)
     rw [eq] at this
     have hqa:qa2 us o ws ov lw (k+1) q r=q-1:=by show qa _ _ _ (k+1) q r=_; rw [J0,if_pos (Or.inr k3),if_pos k2]
     rw [hqa]; exact this
    ·refine dg0.step3 (N:=N) o lu cu ov lw cw (lw:Int) q r us tu ws tw (dfalse k1) c3 c4 c5 c6 cc c1 c2 (by rw [er]; exact dfalse k2) ?_
     have hqa:qa2 us o ws ov lw (k+1) q r=qa2 us o ws ov lw k (q-1) (r+ws.getD (ov+(lw-1)) 0):=by show qa _ _ _ (k+1) q r=_; rw [J0,if_pos (Or.inr k3),if_neg k2]
     rw [hqa,er,eq]
     exact dg0.go o lu cu ov lw cw us tu ws tw hn hl h1 h2 hb hx hy hv k _ _ (by omega) (by omega) (by omega) (by omega) (by rw [Int.natCast_succ,Int.add_mul] at e; omega)
   ·have:=dg0.stop4 (N:=N) o lu cu ov lw cw (lw:Int) q r us tu ws tw (dfalse k1) c3 c4 c5 c6 (by rw [em,eo]; exact dfalse (by omega))
    have hqa:qa2 us o ws ov lw (k+1) q r=q:=by show qa _ _ _ (k+1) q r=_; rw [J0,if_neg (fun h=>h.elim k1 k3)]
    rw [hqa]; exact this
theorem dg0.lp {N:Nat→Prop} (o lu cu ov lw cw:Nat) (n q r:Int) (us:List Int) (tu:TypeId) (ws:List Int) (tw:TypeId) {x:X} {S':St} (h:(dg0.lt o lu cu ov lw cw n q r us tu ws tw).at=some (x,S')):Lq Tryz.prog N (Ay Tryz.f218 0) (dg0.st o lu cu ov lw cw n q r us tu ws tw) x S':=by
 obtain ⟨h1,rfl,rfl⟩:=Ez h
 simp only [dg0.ok,zB,Nat.ble_eq,zD,Dy] at h1
 obtain ⟨rfl,h2,h3,⟨h4,h5,h6⟩,⟨h7,h8,h9⟩,h10,a,b,c,d⟩:=h1
 exact dg0.go o lu cu ov lw cw us tu ws tw h2 h3 h4 h7 h8 h6 h9 h10 2 q r a b c d (by omega)
def dg0.t:LSpec:=fun S=>match RX.nth S.tmps 0,RX.nth S.tmps 1,RX.nth S.tmps 5,RX.nth S.tmps 7,RX.nth S.tmps 8,RX.look S.heap 0,RX.look S.heap 1,S.nxt with
 | .slice (some ⟨0,o,none⟩) lu cu,.slice (some ⟨1,ov,none⟩) lw cw,.int .i64 n,.int .u64 q,.int .u64 r,some (.is .u32 us tu),some (.is .u32 ws tw),578=>bif Nat.beq S.tmps.length 159 then some (dg0.lt o lu cu ov lw cw n q r us tu ws tw) else none
 |_,_,_,_,_,_,_,_=>none
theorem dg0.lok {N:Nat→Prop} :LOKn Tryz.prog N (Ay Tryz.f218 0) (dg0.t):=by
 refine FS fun S lt x S' ht hat=> ?_
 unfold dg0.t at ht
 split at ht
 ·rename_i o lu cu ov lw cw n q r us tu ws tw h0 h1 h5 h7 h8 g0 g1 hnx
  cases hb:Nat.beq S.tmps.length 159 with
  |false=>rw [hb] at ht; cases ht
  | true=>
   rw [hb] at ht
   injection ht with ht
   subst ht
   have hb:=zE hb
   obtain ⟨T,H,_⟩:=S
   subst hnx
   exact .enter (fun h=>FW hb (.cons ⟨h0,bnth h h0⟩ (.cons ⟨h1,bnth h h1⟩ (.cons ⟨h5,bnth h h5⟩ (.cons ⟨h7,bnth h h7⟩ (.cons ⟨h8,bnth h h8⟩ .nil))))) (.cons ⟨g0,bname h g0,rfl⟩ (.cons ⟨g1,bname h g1,rfl⟩ .nil))) (dg0.lp _ _ _ _ _ _ _ _ _ _ _ _ _ hat)
 ·cases ht
def dg1.ok (o lu ov lw:Nat) (q c b z i:Int) (us ws:List Int):Bool:=decide (i=0)&&(decide (z=(lw:Int))&&(decide (c=0)&&(decide (b=0)&&(decide (0≤q)&&(decide (q<4294967296)&&(Nat.ble lw lu&&(Di o lu us&&Di ov lw ws)))))))
def dg1.lt (o lu cu op lp cp:Nat) (n q c b:Int) (ov lw cw:Nat) (z i:Int) (us:List Int) (tu:TypeId) (ws:List Int) (tw:TypeId) (nx:Nat):LT:= .got (dg1.ok o lu ov lw q c b z i us ws) (.exit 2) (dg1.st o lu cu op lp cp n q (qc ws ov q lw) (-(qd us o ws ov q lw/pw lw+qc ws ov q lw)) ov lw cw z z (ip us o lw (qd us o ws ov q lw)) tu ws tw nx)
theorem dg1.go {N:Nat→Prop} (o lu cu op lp cp:Nat) (n q:Int) (ov lw cw:Nat) (us:List Int) (tu:TypeId) (ws:List Int) (tw:TypeId) (nx:Nat) (h1:o+lu≤us.length) (h2:ov+lw≤ws.length) (hl:lw≤lu) (hb:lw≤4294967296) (hx:dig us) (hy:dig ws) (q0:0≤q) (q1:q<4294967296):∀(j k:Nat),k+j=lw→Lq Tryz.prog N (Ay Tryz.f218 2) (dg1.st o lu cu op lp cp n q (qc ws ov q k) (-(qd us o ws ov q k/pw k+qc ws ov q k)) ov lw cw (lw:Int) (k:Int) (ip us o k (qd us o ws ov q k)) tu ws tw nx) (.exit 2) (dg1.st o lu cu op lp cp n q (qc ws ov q lw) (-(qd us o ws ov q lw/pw lw+qc ws ov q lw)) ov lw cw (lw:Int) (lw:Int) (ip us o lw (qd us o ws ov q lw)) tu ws tw nx)
 | 0,k,h=>by
  obtain rfl:k=lw:=by omega
  exact dg1.stop1 _ _ _ _ _ _ _ _ _ _ _ _ _ _ _ _ _ _ _ _ (dfalse (by omega))
 | j +1,k,h=>by
  have e1:i64.wrap ((k:Int)+1)=((k+1:Nat):Int):=by rw [w64 (by omega) (by omega)]; omega
  have ea:o+((k:Int)).toNat*1=o+k:=by simp
  have eb:ov+((k:Int)).toNat*1=ov+k:=by simp
  have hX:=EF hx (o+k)
  have hY:=EF hy (ov+k)
  have hC:=QW hy q0 (show ov+k≤ws.length by omega)
  have hB:=QV hx hy q (show o+k≤us.length by omega) (show ov+k≤ws.length by omega)
  have hs:=Ow q (show o+k<us.length by omega) (show ov+k<ws.length by omega)
  have hcs:=qc_succ q (show ov+k<ws.length by omega)
  have ih:=dg1.go (N:=N) o lu cu op lp cp n q ov lw cw us tu ws tw nx h1 h2 hl hb hx hy q0 q1 j (k+1) (by omega)
  have hg:(ip us o k (qd us o ws ov q k)).getD (o+k) 0=us.getD (o+k) 0:=Ji _ (by omega) (Nat.le_refl _)
  have hlen:=GM (qd us o ws ov q k) (show o+k≤us.length by omega)
  rw [hs,hcs,FG,←LB (by omega)] at ih
  have m0:0≤q*ws.getD (ov+k) 0:=Int.mul_nonneg q0 hY.1
  have m1:q*ws.getD (ov+k) 0≤4294967295*4294967295:=Int.mul_le_mul (by omega) (by omega) hY.1 (by omega)
  refine dg1.step0 _ _ _ _ _ _ _ _ _ _ _ _ _ _ _ _ _ _ _ _ (dtrue (by omega)) (dtrue2 (by omega) (by omega)) (by rw [eb]; exact EM (by omega)) (dtrue2 (by omega) (by omega)) (by rw [ea,hlen]; exact EM (by omega)) (dtrue2 (by omega) (by omega)) (by rw [ea,hlen]; exact EM (by omega)) ?_
  rw [ea,eb,e1,hg]
  generalize qc ws ov q k=c at*
  generalize qd us o ws ov q k/pw k=d at*
  generalize us.getD (o+k) 0=u at*
  have e2:u64.wrap (c+u64.wrap (q*u64.wrap (ws.getD (ov+k) 0)))=c+q*ws.getD (ov+k) 0:=by
   rw [u64of (n:=ws.getD (ov+k) 0) hY.1 (by omega),u64of (n:=q*ws.getD (ov+k) 0) m0 (by omega),u64of (by omega) (by omega)]
  rw [e2]
  generalize hm:q*ws.getD (ov+k) 0=m at*
  have e3:u32.wrap (c+m)=(c+m)%4294967296:=wu32 _
  have e4:(c+m).fdiv (2^min (Int.toNat 32) u64.bits)=(c+m)/4294967296:=by
   rw [Int.fdiv_eq_ediv_of_nonneg _ (by decide),show ((2:Int)^min (Int.toNat 32) u64.bits)=4294967296 from rfl]
  rw [e3,e4,borrow hX.1 hX.2 (by omega) (by omega) (by omega) (by omega),KF]
  rw [show -((u-(c+m)%4294967296- -(d+c))/4294967296)= -((d+(u-m))/4294967296+(c+m)/4294967296) by omega]
  rw [show (-(-(d+c))+(u-(c+m)%4294967296))%4294967296=(d+(u-m))%4294967296 by omega]
  exact ih
theorem dg1.lp {N:Nat→Prop} (o lu cu op lp cp:Nat) (n q c b:Int) (ov lw cw:Nat) (z i:Int) (us:List Int) (tu:TypeId) (ws:List Int) (tw:TypeId) (nx:Nat) {x:X} {S':St} (h:(dg1.lt o lu cu op lp cp n q c b ov lw cw z i us tu ws tw nx).at=some (x,S')):Lq Tryz.prog N (Ay Tryz.f218 2) (dg1.st o lu cu op lp cp n q c b ov lw cw z i us tu ws tw nx) x S':=by
 obtain ⟨h1,rfl,rfl⟩:=Ez h
 simp only [dg1.ok,zB,Nat.ble_eq,zD,Dy] at h1
 obtain ⟨rfl,rfl,rfl,rfl,h5,h6,h7,⟨h8,h9,h10⟩,h11,h12,h13⟩:=h1
 have e:qc ws ov q 0=0:=by simp [qc,FH,nv]
 have e': -(qd us o ws ov q 0/pw 0+qc ws ov q 0)=0:=by simp [qd,qc,FH,nv]
 have:=dg1.go (N:=N) o lu cu op lp cp n q ov lw cw us tu ws tw nx h8 h11 h7 h12 h10 h13 h5 h6 lw 0 (by omega)
 rw [e',e,MY] at this
 exact this
def dg1.t:LSpec:=fun S=>match RX.nth S.tmps 0,RX.nth S.tmps 1,RX.nth S.tmps 5,RX.nth S.tmps 7,RX.nth S.tmps 9,RX.nth S.tmps 10,RX.nth S.tmps 81,RX.nth S.tmps 82,RX.nth S.tmps 83,RX.look S.heap 0,RX.look S.heap 1 with
 | .slice (some ⟨0,o,none⟩) lu cu,.slice (some ⟨1,op,none⟩) lp cp,.int .i64 n,.int .u64 q,.int .u64 c,.int .u32 b,.slice (some ⟨1,ov,none⟩) lw cw,.int .i64 z,.int .i64 i,some (.is .u32 us tu),some (.is .u32 ws tw)=>bif Nat.beq S.tmps.length 159 then some (dg1.lt o lu cu op lp cp n q c b ov lw cw z i us tu ws tw S.nxt) else none
 |_,_,_,_,_,_,_,_,_,_,_=>none
theorem dg1.lok {N:Nat→Prop} :LOKn Tryz.prog N (Ay Tryz.f218 2) (dg1.t):=by
 refine FS fun S lt x S' ht hat=> ?_
 unfold dg1.t at ht
 split at ht
 ·rename_i o lu cu op lp cp n q c b ov lw cw z i us tu ws tw h0 h1 h5 h7 h9 h10 h81 h82 h83 g0 g1
  cases hb:Nat.beq S.tmps.length 159 with
  |false=>rw [hb] at ht; cases ht
  | true=>
   rw [hb] at ht
   injection ht with ht
   subst ht
   have hb:=zE hb
   exact .enter (fun h=>FW hb (.cons ⟨h0,bnth h h0⟩ (.cons ⟨h1,bnth h h1⟩ (.cons ⟨h5,bnth h h5⟩ (.cons ⟨h7,bnth h h7⟩ (.cons ⟨h9,bnth h h9⟩ (.cons ⟨h10,bnth h h10⟩ (.cons ⟨h81,bnth h h81⟩ (.cons ⟨h82,bnth h h82⟩ (.cons ⟨h83,bnth h h83⟩ .nil))))))))) (.cons ⟨g0,bname h g0,rfl⟩ (.cons ⟨g1,bname h g1,rfl⟩ .nil))) (dg1.lp _ _ _ _ _ _ _ _ _ _ _ _ _ _ _ _ _ _ _ _ hat)
 ·cases ht
def dg2.ok (o lu ov lw:Nat) (b z i:Int) (us ws:List Int):Bool:=decide (i=0)&&(decide (z=(lw:Int))&&(decide (b=0)&&(Nat.ble lw lu&&(Di o lu us&&Di ov lw ws))))
def dg2.lt (o lu cu:Nat) (n q b:Int) (ov lw cw:Nat) (z i:Int) (us:List Int) (tu:TypeId) (ws:List Int) (tw:TypeId) (nx:Nat):LT:= .got (dg2.ok o lu ov lw b z i us ws) (.exit 4) (dg2.st o lu cu n q (qd us o ws ov (-1) lw/pw lw) ov lw cw z z (ip us o lw (qd us o ws ov (-1) lw)) tu ws tw nx)
theorem qs_bnd {us ws:List Int} (hd:dig us) (hd':dig ws) {o ov k:Nat} (h:o+k≤us.length) (h':ov+k≤ws.length):0≤qd us o ws ov (-1) k/pw k∧qd us o ws ov (-1) k/pw k≤1:=by
 have a:=Dx (EB hd o k)
 have b:=FF (EB hd o k)
 have a':=Dx (EB hd' ov k)
 have b':=FF (EB hd' ov k)
 rw [EL h] at b
 rw [EL h'] at b'
 have hp:=Ep k
 unfold qd
 constructor
 ·exact Int.ediv_nonneg (by omega) (by omega)
 ·exact Int.le_of_lt_add_one (Int.ediv_lt_of_lt_mul hp (by omega))
theorem dg2.go {N:Nat→Prop} (o lu cu:Nat) (n q:Int) (ov lw cw:Nat) (us:List Int) (tu:TypeId) (ws:List Int) (tw:TypeId) (nx:Nat) (h1:o+lu≤us.length) (h2:ov+lw≤ws.length) (hl:lw≤lu) (hb:lw≤4294967296) (hx:dig us) (hy:dig ws):∀(j k:Nat),k+j=lw→Lq Tryz.prog N (Ay Tryz.f218 4) (dg2.st o lu cu n q (qd us o ws ov (-1) k/pw k) ov lw cw (lw:Int) (k:Int) (ip us o k (qd us o ws ov (-1) k)) tu ws tw nx) (.exit 4) (dg2.st o lu cu n q (qd us o ws ov (-1) lw/pw lw) ov lw cw (lw:Int) (lw:Int) (ip us o lw (qd us o ws ov (-1) lw)) tu ws tw nx)
 | 0,k,h=>by
  obtain rfl:k=lw:=by omega
  exact dg2.stop1 _ _ _ _ _ _ _ _ _ _ _ _ _ _ _ _ (dfalse (by omega))
 | j+1,k,h=>by
  have e1:i64.wrap ((k:Int)+1)=((k+1:Nat):Int):=by rw [w64 (by omega) (by omega)]; omega
  have ea:o+((k:Int)).toNat*1=o+k:=by simp
  have eb:ov+((k:Int)).toNat*1=ov+k:=by simp
  have hX:=EF hx (o+k)
  have hY:=EF hy (ov+k)
  have hB:=qs_bnd hx hy (show o+k≤us.length by omega) (show ov+k≤ws.length by omega)
  have hs:=Ow (-1) (show o+k<us.length by omega) (show ov+k<ws.length by omega)
  have ih:=dg2.go (N:=N) o lu cu n q ov lw cw us tu ws tw nx h1 h2 hl hb hx hy j (k+1) (by omega)
  have hg:(ip us o k (qd us o ws ov (-1) k)).getD (o+k) 0=us.getD (o+k) 0:=Ji _ (by omega) (Nat.le_refl _)
  have hlen:=GM (qd us o ws ov (-1) k) (show o+k≤us.length by omega)
  rw [hs,FG,←LB (by omega)] at ih
  refine dg2.step0 _ _ _ _ _ _ _ _ _ _ _ _ _ _ _ _ (dtrue (by omega)) (dtrue2 (by omega) (by omega)) (by rw [eb]; exact EM (by omega)) (dtrue2 (by omega) (by omega)) (by rw [ea,hlen]; exact EM (by omega)) (dtrue2 (by omega) (by omega)) (by rw [ea,hlen]; exact EM (by omega)) ?_
  rw [ea,eb,e1,hg,Gg hX.1 hX.2 hY.1 hY.2 hB.1 hB.2,Hp (by omega) (by omega),wu32]
  rw [show us.getD (o+k) 0+ws.getD (ov+k) 0+qd us o ws ov (-1) k/pw k=qd us o ws ov (-1) k/pw k+(us.getD (o+k) 0- -1*ws.getD (ov+k) 0) by omega]
  exact ih
theorem dg2.lp {N:Nat→Prop} (o lu cu:Nat) (n q b:Int) (ov lw cw:Nat) (z i:Int) (us:List Int) (tu:TypeId) (ws:List Int) (tw:TypeId) (nx:Nat) {x:X} {S':St} (h:(dg2.lt o lu cu n q b ov lw cw z i us tu ws tw nx).at=some (x,S')):Lq Tryz.prog N (Ay Tryz.f218 4) (dg2.st o lu cu n q b ov lw cw z i us tu ws tw nx) x S':=by
 obtain ⟨h1,rfl,rfl⟩:=Ez h
 simp only [dg2.ok,zB,Nat.ble_eq,zD,Dy] at h1
 obtain ⟨rfl,rfl,rfl,h7,⟨h8,h9,h10⟩,h11,h12,h13⟩:=h1
 have e':qd us o ws ov (-1) 0/pw 0=0:=by simp [qd,FH,nv]
 have:=dg2.go (N:=N) o lu cu n q ov lw cw us tu ws tw nx h8 h11 h7 h12 h10 h13 lw 0 (by omega)
 rw [e',MY] at this
 exact this
def dg2.t:LSpec:=fun S=>match RX.nth S.tmps 0,RX.nth S.tmps 5,RX.nth S.tmps 7,RX.nth S.tmps 13,RX.nth S.tmps 129,RX.nth S.tmps 130,RX.nth S.tmps 131,RX.look S.heap 0,RX.look S.heap 1 with
 | .slice (some ⟨0,o,none⟩) lu cu,.int .i64 n,.int .u64 q,.int .u32 b,.slice (some ⟨1,ov,none⟩) lw cw,.int .i64 z,.int .i64 i,some (.is .u32 us tu),some (.is .u32 ws tw)=>bif Nat.beq S.tmps.length 159 then some (dg2.lt o lu cu n q b ov lw cw z i us tu ws tw S.nxt) else none
 |_,_,_,_,_,_,_,_,_=>none
theorem dg2.lok {N:Nat→Prop} :LOKn Tryz.prog N (Ay Tryz.f218 4) (dg2.t):=by
 refine FS fun S lt x S' ht hat=> ?_
 unfold dg2.t at ht
 split at ht
 ·rename_i o lu cu n q b ov lw cw z i us tu ws tw h0 h5 h7 h13 h129 h130 h131 g0 g1
  cases hb:Nat.beq S.tmps.length 159 with
  |false=>rw [hb] at ht; cases ht
  | true=>
   rw [hb] at ht
   injection ht with ht
   subst ht
   have hb:=zE hb
   exact .enter (fun h=>FW hb (.cons ⟨h0,bnth h h0⟩ (.cons ⟨h5,bnth h h5⟩ (.cons ⟨h7,bnth h h7⟩ (.cons ⟨h13,bnth h h13⟩ (.cons ⟨h129,bnth h h129⟩ (.cons ⟨h130,bnth h h130⟩ (.cons ⟨h131,bnth h h131⟩ .nil))))))) (.cons ⟨g0,bname h g0,rfl⟩ (.cons ⟨g1,bname h g1,rfl⟩ .nil))) (dg2.lp _ _ _ _ _ _ _ _ _ _ _ _ _ _ _ _ hat)
 ·cases ht
abbrev rdigit.c3 (o lw:Nat) (us:List Int):=E6 BinOp.or u64 (u64.wrap (u64.wrap (us.getD (o+(((lw:Nat):Int)).toNat*1) 0)*2^min (Int.toNat 32) u64.bits)) (u64.wrap (us.getD (o+(i64.wrap (((lw:Nat):Int)-1)).toNat*1) 0))
abbrev rdigit.c4 (ov lw:Nat) (ws:List Int):=ws.getD (ov+(i64.wrap (((lw:Nat):Int)-1)).toNat*1) 0
abbrev rdigit.c0 (o ov lw:Nat) (us ws:List Int):=qa2 us o ws ov lw 2 (u64.wrap ((rdigit.c3 o lw us).tdiv (u64.wrap (rdigit.c4 ov lw ws)))) ((rdigit.c3 o lw us).tmod (u64.wrap (rdigit.c4 ov lw ws)))
abbrev rdigit.c5 (o ov lw:Nat) (us ws:List Int):=ip us o lw (qd us o ws ov (rdigit.c0 o ov lw us ws) lw)
abbrev rdigit.c1 (o ov lw:Nat) (us ws:List Int):=u32.wrap (u32.wrap ((rdigit.c5 o ov lw us ws).getD (o+(((lw:Nat):Int)).toNat*1) 0-u32.wrap (qc ws ov (rdigit.c0 o ov lw us ws) lw))- -(qd us o ws ov (rdigit.c0 o ov lw us ws) lw/pw lw+qc ws ov (rdigit.c0 o ov lw us ws) lw))
abbrev rdigit.c2 (o ov lw:Nat) (us ws:List Int):=ip ((rdigit.c5 o ov lw us ws).set (o+(((lw:Nat):Int)).toNat*1) (rdigit.c1 o ov lw us ws)) o lw (qd ((rdigit.c5 o ov lw us ws).set (o+(((lw:Nat):Int)).toNat*1) (rdigit.c1 o ov lw us ws)) o ws ov (-1) lw)
theorem rdigit.run (o lu cu ov lw cw:Nat) (us ws:List Int):xfn Tryz.prog ⟨[],[(208,Tryz.f208),(207,Tryz.f207)],[]⟩ [(0,dg0.t),(2,dg1.t),(4,dg2.t)] 10 Tryz.f218 [.slice (some ⟨0,o,none⟩) lu cu,.slice (some ⟨1,ov,none⟩) lw cw] [.is .u32 us 64,.is .u32 ws 64]=
 bif decide (0≤((lw:Nat):Int))&&decide (((lw:Nat):Int)<((lu:Nat):Int)) then bif (o+(((lw:Nat):Int)).toNat*1).blt us.length then bif decide (0≤i64.wrap (((lw:Nat):Int)-1))&&decide (i64.wrap (((lw:Nat):Int)-1)<((lu:Nat):Int)) then bif (o+(i64.wrap (((lw:Nat):Int)-1)).toNat*1).blt us.length then bif decide (0≤i64.wrap (((lw:Nat):Int)-1))&&decide (i64.wrap (((lw:Nat):Int)-1)<((lw:Nat):Int)) then bif (ov+(i64.wrap (((lw:Nat):Int)-1)).toNat*1).blt ws.length then bif u64.wrap (rdigit.c4 ov lw ws) !=0 then bif decide (0≤i64.wrap (((lw:Nat):Int)-1))&&decide (i64.wrap (((lw:Nat):Int)-1)<((lw:Nat):Int)) then bif (ov+(i64.wrap (((lw:Nat):Int)-1)).toNat*1).blt ws.length then bif u64.wrap (rdigit.c4 ov lw ws) !=0 then bif dg0.ok o lu ov lw (((lw:Nat):Int)) (u64.wrap ((rdigit.c3 o lw us).tdiv (u64.wrap (rdigit.c4 ov lw ws)))) ((rdigit.c3 o lw us).tmod (u64.wrap (rdigit.c4 ov lw ws))) us ws then bif dg1.ok o lu ov lw (rdigit.c0 o ov lw us ws) 0 0 (((lw:Nat):Int)) 0 us ws then bif decide (0≤((lw:Nat):Int))&&decide (((lw:Nat):Int)<((lu:Nat):Int)) then bif (o+(((lw:Nat):Int)).toNat*1).blt (rdigit.c5 o ov lw us ws).length then bif decide (0≤((lw:Nat):Int))&&decide (((lw:Nat):Int)<((lu:Nat):Int)) then bif (o+(((lw:Nat):Int)).toNat*1).blt (rdigit.c5 o ov lw us ws).length then bif (E6 BinOp.or u32 (E6 BinOp.and u32 (E6 BinOp.xor u32 (if u32.signed=true then -1 else u32.max) ((rdigit.c5 o ov lw us ws).getD (o+(((lw:Nat):Int)).toNat*1) 0)) (u32.wrap (qc ws ov (rdigit.c0 o ov lw us ws) lw))) (E6 BinOp.and u32 (E6 BinOp.xor u32 (if u32.signed=true then -1 else u32.max) (E6 BinOp.xor u32 ((rdigit.c5 o ov lw us ws).getD (o+(((lw:Nat):Int)).toNat*1) 0) (u32.wrap (qc ws ov (rdigit.c0 o ov lw us ws) lw)))) (rdigit.c1 o ov lw us ws))).fdiv (2^min (Int.toNat 31) u32.bits) !=0 then bif dg2.ok o lu ov lw 0 (((lw:Nat):Int)) 0 ((rdigit.c5 o ov lw us ws).set (o+(((lw:Nat):Int)).toNat*1) (rdigit.c1 o ov lw us ws)) ws then bif decide (0≤((lw:Nat):Int))&&decide (((lw:Nat):Int)<((lu:Nat):Int)) then bif (o+(((lw:Nat):Int)).toNat*1).blt (rdigit.c2 o ov lw us ws).length then bif decide (0≤((lw:Nat):Int))&&decide (((lw:Nat):Int)<((lu:Nat):Int)) then bif (o+(((lw:Nat):Int)).toNat*1).blt (rdigit.c2 o ov lw us ws).length then some ((Value.int u32 (u32.wrap (u64.wrap (qa2 us o ws ov lw 2 (u64.wrap ((rdigit.c3 o lw us).tdiv (u64.wrap (rdigit.c4 ov lw ws)))) ((rdigit.c3 o lw us).tmod (u64.wrap (rdigit.c4 ov lw ws)))-1))),[Blk.is u32 ((rdigit.c2 o ov lw us ws).set (o+(((lw:Nat):Int)).toNat*1) (u32.wrap ((rdigit.c2 o ov lw us ws).getD (o+(((lw:Nat):Int)).toNat*1) 0+qd ((rdigit.c5 o ov lw us ws).set (o+(((lw:Nat):Int)).toNat*1) (rdigit.c1 o ov lw us ws)) o ws ov (-1) lw/pw lw))) 64,Blk.is u32 ws 64]))
 else none else none else none else none else none else some ((Value.int u32 (u32.wrap (rdigit.c0 o ov lw us ws)),[Blk.is u32 ((rdigit.c5 o ov lw us ws).set (o+(((lw:Nat):Int)).toNat*1) (rdigit.c1 o ov lw us ws)) 64,Blk.is u32 ws 64])) else none else none else none else none else none else none else none else none else none else none else none else none else none else none else none else none:=by kernel_rfl
def rdigit.run0:=fun o lu cu ov lw cw us ws h0 h1 h2 h3 h4 h5 h6 h7 h8 h9 h10 h11 h12 h13 h14 h15 h16 h17 h18 h19 h20 h21=>(((((((((((((((((((((((rdigit.run o lu cu ov lw cw us ws).ct h0).ct h1).ct h2).ct h3).ct h4).ct h5).ct h6).ct h7).ct h8).ct h9).ct h10).ct h11).ct h12).ct h13).ct h14).ct h15).ct h16).ct h17).ct h18).ct h19).ct h20).ct h21)
def rdigit.run1:=fun o lu cu ov lw cw us ws h0 h1 h2 h3 h4 h5 h6 h7 h8 h9 h10 h11 h12 h13 h14 h15 h16=>((((((((((((((((((rdigit.run o lu cu ov lw cw us ws).ct h0).ct h1).ct h2).ct h3).ct h4).ct h5).ct h6).ct h7).ct h8).ct h9).ct h10).ct h11).ct h12).ct h13).ct h14).ct h15).cf h16)
theorem P6 {xs:List Int} {o l:Nat} (hl:2≤l) (h:o+l≤xs.length):nv (seg xs o l)=(xs.getD (o+(l-1)) 0*4294967296+xs.getD (o+(l-2)) 0)*pw (l-2)+nv (seg xs o (l-2)):=by
 obtain ⟨m,rfl⟩:∃m,l=m+2:=⟨l-2,by omega⟩
 rw [show m+2-1=m+1 by omega,show m+2-2=m by omega,EU (show o+(m+1)<xs.length by omega),EU (show o+m<xs.length by omega),Eb,Int.add_mul,Int.mul_comm 4294967296,Int.mul_assoc (pw m),Int.mul_comm (pw m),Int.mul_comm (pw m),Int.mul_comm 4294967296]
 omega
theorem OH {us ws:List Int} {o ov lw:Nat} (hx:dig us) (hy:dig ws) (hn:2≤lw) (h1:o+(lw+1)≤us.length) (h2:ov+lw≤ws.length) (hv:2147483648≤ws.getD (ov+(lw-1)) 0) (hlt:nv (seg us o (lw+1))<nv (seg ws ov lw)*4294967296):
  let T:=us.getD (o+(lw-1)) 0+4294967296*us.getD (o+lw) 0
  let v1:=ws.getD (ov+(lw-1)) 0
  let q:=qa2 us o ws ov lw 2 (T/v1) (T%v1)
  nv (seg us o (lw+1))/nv (seg ws ov lw)≤q∧q≤nv (seg us o (lw+1))/nv (seg ws ov lw)+1∧0≤q∧q<4294967296∧T/v1≤4294967297:=by
 intro T v1 q
 have V1:=EF hy (ov+(lw-1))
 have V2:=EF hy (ov+(lw-2))
 have U2:=EF hx (o+(lw-2))
 have U1:=EF hx (o+(lw-1))
 have U0:=EF hx (o+lw)
 have a:=Dx (EB hx o (lw-2))
 have b:=FF (EB hx o (lw-2))
 rw [EL (by omega)] at b
 have a':=Dx (EB hy ov (lw-2))
 have b':=FF (EB hy ov (lw-2))
 rw [EL (by omega)] at b'
 have eV:=P6 hn h2
 have eU:nv (seg us o (lw+1))=(T*4294967296+us.getD (o+(lw-2)) 0)*pw (lw-2)+nv (seg us o (lw-2)):=by
  rw [EU (show o+lw<us.length by omega),P6 hn (by omega)]
  obtain ⟨m,rfl⟩:∃m,lw=m+2:=⟨lw-2,by omega⟩
  rw [show m+2-2=m by omega] at*
  show _=((us.getD (o+(m+2-1)) 0+4294967296*us.getD (o+(m+2)) 0)*4294967296+us.getD (o+m) 0)*pw m+nv (seg us o m)
  have e:pw (m+2)*us.getD (o+(m+2)) 0=(4294967296*us.getD (o+(m+2)) 0)*4294967296*pw m:=by
   rw [show pw (m+2)=4294967296*(4294967296*pw m) by rw [show m+2=m+1+1 from rfl,Eb,Eb]]
   generalize us.getD (o+(m+2)) 0=z
   generalize pw m=p
   rw [Int.mul_assoc 4294967296,Int.mul_assoc 4294967296 p,Int.mul_assoc 4294967296 z,Int.mul_comm z,Int.mul_assoc 4294967296,Int.mul_assoc 4294967296 z,Int.mul_comm z]
  rw [e,Int.add_mul (us.getD (o+(m+2-1)) 0),Int.add_mul (us.getD (o+(m+2-1)) 0*4294967296),Int.add_mul (us.getD (o+(m+2-1)) 0*4294967296+4294967296*us.getD (o+(m+2)) 0*4294967296),Int.add_mul (us.getD (o+(m+2-1)) 0*4294967296)]
  omega
 exact knuth (Ep _) hv V1.2 V2.1 V2.2 U2.1 U2.2 eV a' b' eU a b (by omega) hlt
theorem GW {P:Program} {N:Nat→Prop} {fn:Func} {b:Code} {L:List (Nat×LSpec)} (hb:fn.body=some b) (h:LsOkn P N L b):∀c,fn.body=some c→LsOkn P N L c:=fun c hc=>by
 rw [hb] at hc
 injection hc with hc
 subst hc
 exact h
def digit.sp:HSpec
 |[.slice (some ⟨0,o,none⟩) lu cu,.slice (some ⟨1,ov,none⟩) lw cw],[.is .u32 us 64,.is .u32 ws 64]=>some (Nat.beq lu (lw+1)&&(Nat.ble 2 lw&&(Di o lu us&&(Di ov lw ws&&(decide (2147483648≤ws.getD (ov+(lw-1)) 0)&&decide (nv (seg us o (lw+1))<nv (seg ws ov lw)*4294967296))))),.int .u32 (nv (seg us o (lw+1))/nv (seg ws ov lw)),[.is .u32 (ip us o (lw+1) (nv (seg us o (lw+1))%nv (seg ws ov lw))) 64,.is .u32 ws 64])
 |_,_=>none
theorem HS.ok:SOK Tryz.prog 218 digit.sp:=by
 refine Dl (E:=⟨[],[(208,Tryz.f208),(207,Tryz.f207)],[]⟩) (L:=[(0,dg0.t),(2,dg1.t),(4,dg2.t)]) ⟨Ac,Bu ⟨Tryz.func208,by decide,rfl⟩ (Bu ⟨Tryz.func207,by decide,rfl⟩ Aq),Aj,Ap⟩ 10 Tryz.func218 (by decide) rfl (GW rfl (Er rfl dg0.lok (Er rfl dg1.lok (Er rfl dg2.lok Bs)))) fun vs bl v bl' h=> ?_
 unfold digit.sp at h
 split at h
 ·rename_i o lu cu ov lw cw us ws
  simp only [zS,zP,zB,Nat.ble_eq,zD,Dy] at h
  obtain ⟨⟨hlu,hn,⟨h1,h1b,hx⟩,⟨h2,h2b,hy⟩,hv,hlt⟩,rfl,rfl⟩:=h
  obtain rfl:=zE hlu
  have V1:=EF hy (ov+(lw-1))
  have U1:=EF hx (o+(lw-1))
  have U0:=EF hx (o+lw)
  obtain ⟨g1,g2,g3,g4,g5⟩:=OH hx hy hn h1 h2 hv hlt
  have w1:i64.wrap ((lw:Int)-1)=((lw-1:Nat):Int):=by rw [w64 (by omega) (by omega)]; omega
  have eT:E6 BinOp.or u64 (u64.wrap (u64.wrap (us.getD (o+lw) 0)*2^min (Int.toNat 32) u64.bits)) (u64.wrap (us.getD (o+(lw-1)) 0))=us.getD (o+(lw-1)) 0+4294967296*us.getD (o+lw) 0:=by
   rw [u64of (n:=us.getD (o+lw) 0) U0.1 (by omega)]; exact ND U1.1 U1.2 U0.1 U0.2
  have eV:u64.wrap (ws.getD (ov+(lw-1)) 0)=ws.getD (ov+(lw-1)) 0:=u64of V1.1 (by omega)
  have n1:=rdigit.run0 o (lw+1) cu ov lw cw us ws
  have n0:=rdigit.run1 o (lw+1) cu ov lw cw us ws
  simp only [rdigit.c0,rdigit.c1,rdigit.c2,rdigit.c3,rdigit.c4,rdigit.c5,w1,Int.toNat_natCast,Nat.mul_one,eT,eV] at n0 n1
  clear eT eV
  generalize hT:us.getD (o+(lw-1)) 0+4294967296*us.getD (o+lw) 0=T at*
  have T0:0≤T:=by omega
  have T1:T<18446744073709551616:=by omega
  generalize hv1:ws.getD (ov+(lw-1)) 0=v1 at*
  have d0:0≤T/v1:=Int.ediv_nonneg T0 (by omega)
  have d1:T/v1≤T:=Int.ediv_le_self _ T0
  have r0:=Int.emod_nonneg T (show v1≠0 by omega)
  have r1:=Int.emod_lt_of_pos T (show 0<v1 by omega)
  have eD:T.tdiv v1=T/v1:=Int.tdiv_eq_ediv_of_nonneg T0
  have eM:T.tmod v1=T%v1:=Int.tmod_eq_emod_of_nonneg T0
  have eW:u64.wrap (T/v1)=T/v1:=u64of d0 (by omega)
  simp only [eD,eM,eW] at n0 n1
  generalize hq:qa2 us o ws ov lw 2 (T/v1) (T%v1)=q at*
  have hC:=QW hy g3 h2
  have hB:=QV hx hy q (show o+lw≤us.length by omega) h2
  have hlen:=GM (qd us o ws ov q lw) (show o+lw≤us.length by omega)
  have hg:(ip us o lw (qd us o ws ov q lw)).getD (o+lw) 0=us.getD (o+lw) 0:=Ji _ (by omega) (Nat.le_refl _)
  have eC:u32.wrap (qc ws ov q lw)=qc ws ov q lw:=u32of hC.1 (by omega)
  simp only [hg,eC] at n0 n1
  have eB:=borrow U0.1 U0.2 hC.1 (show qc ws ov q lw<4294967296 by omega) (b:= -(qd us o ws ov q lw/pw lw+qc ws ov q lw)) (by omega) (by omega)
  simp only [eB] at n0 n1
  have eS:u32.wrap (u32.wrap (us.getD (o+lw) 0-qc ws ov q lw)- -(qd us o ws ov q lw/pw lw+qc ws ov q lw))=(qd us o ws ov q lw/pw lw+us.getD (o+lw) 0)%4294967296:=by rw [KF]; congr 1; omega
  have hDU:qd us o ws ov q lw+pw lw*us.getD (o+lw) 0=nv (seg us o (lw+1))-q*nv (seg ws ov lw):=by rw [EU (show o+lw<us.length by omega)]; unfold qd; omega
  have eI:=LB (show o+lw<us.length by omega) (qd us o ws ov q lw) (us.getD (o+lw) 0)
  have eN: -((us.getD (o+lw) 0-qc ws ov q lw- -(qd us o ws ov q lw/pw lw+qc ws ov q lw))/4294967296)= -((nv (seg us o (lw+1))-q*nv (seg ws ov lw))/pw (lw+1)):=by rw [←hDU,FG]; congr 2; omega
  simp only [eS,eI,hDU,eN] at n0 n1
  have c1:=dtrue2 (p:=0≤(lw:Int)) (q:=(lw:Int)<((lw+1:Nat):Int)) (by omega) (by omega)
  have c2:=dtrue2 (p:=0≤((lw-1:Nat):Int)) (q:=((lw-1:Nat):Int)<((lw+1:Nat):Int)) (by omega) (by omega)
  have c3:=dtrue2 (p:=0≤((lw-1:Nat):Int)) (q:=((lw-1:Nat):Int)<(lw:Int)) (by omega) (by omega)
  have b1:(o+lw).blt us.length=true:=EM (by omega)
  have b2:(o+(lw-1)).blt us.length=true:=EM (by omega)
  have b3:(ov+(lw-1)).blt ws.length=true:=EM (by omega)
  have b4:(o+lw).blt (ip us o lw (qd us o ws ov q lw)).length=true:=by rw [hlen]; exact b1
  have nz:(v1 !=0)=true:=E8 (by omega)
  have k0:dg0.ok o (lw+1) ov lw (lw:Int) (T/v1) (T%v1) us ws=true:=by
   simp only [dg0.ok,zB,Nat.ble_eq,zD,Dy,hv1]
   exact ⟨trivial,hn,Nat.le_refl _,⟨h1,h1b,hx⟩,⟨h2,h2b,hy⟩,hv,d0,g5,r0,by omega⟩
  have k1:dg1.ok o (lw+1) ov lw q 0 0 (lw:Int) 0 us ws=true:=by
   simp only [dg1.ok,zB,Nat.ble_eq,zD,Dy]
   exact ⟨trivial,trivial,trivial,trivial,g3,g4,by omega,⟨h1,h1b,hx⟩,⟨h2,h2b,hy⟩⟩
  replace n0:=n0 c1 b1 c2 b2 c3 b3 nz c3 b3 nz k0 k1 c1 b4 c1 b4
  replace n1:=n1 c1 b1 c2 b2 c3 b3 nz c3 b3 nz k0 k1 c1 b4 c1 b4
  clear eB eS eI eN hDU hg hlen k0 k1 eD eM eW hC hB eC
  have W0:=Dx (EB hy ov lw)
  have W1:=Dx (EB hx o (lw+1))
  have W2:=FF (EB hx o (lw+1))
  rw [EL h1] at W2
  generalize hU:nv (seg us o (lw+1))=U at*
  generalize hV:nv (seg ws ov lw)=V at*
  have Vp:0<V:=by omega
  have hp:=Ep (lw+1)
  have hsp:V*(U/V)+U%V=U:=Int.mul_ediv_add_emod U V
  have qv0:0≤q*V:=Int.mul_nonneg g3 W0
  by_cases hc:q*V≤U
  ·have e1:q=U/V:=Int.le_antisymm ((Int.le_ediv_iff_mul_le Vp).2 hc) g1
   have e2:(U-q*V)/pw (lw+1)=0:=Int.ediv_eq_zero_of_lt (by omega) (by omega)
   have e3:U-q*V=U%V:=by rw [e1,Int.mul_comm]; omega
   have e4:u32.wrap q=q:=u32of g3 g4
   rw [e2,e3,e4] at n0
   refine ⟨(n0 rfl).trans ?_,by simp [okV,Nat.blt],clo_spec 8 _ rfl,Bg rfl⟩
   rw [e1]
  ·have e1:q=U/V+1:=by
    refine Int.le_antisymm g2 (Int.lt_of_not_ge fun hz=>hc ?_)
    have:q*V≤(U/V)*V:=Int.mul_le_mul_of_nonneg_right hz W0
    have:=Int.emod_nonneg U (show V≠0 by omega)
    rw [Int.mul_comm V] at hsp
    omega
   have e2:(U-q*V)/pw (lw+1)<0:=Int.ediv_neg_of_neg_of_pos (by omega) hp
   have e3:U-q*V+V=U%V:=by
    have:q*V=V*(U/V)+V:=by rw [e1,Int.add_mul,Int.one_mul,Int.mul_comm]
    omega
   have q1:1≤q:=by
    have:=Int.ediv_nonneg W1 W0
    omega
   have e4:u32.wrap (u64.wrap (q-1))=q-1:=by rw [u64of (by omega) (by omega),u32of (by omega) (by omega)]
   have hz:=dig_ip hx o (lw+1) (U-q*V)
   have hl1:(ip us o (lw+1) (U-q*V)).length=us.length:=GM _ h1
   have k2:dg2.ok o (lw+1) ov lw 0 (lw:Int) 0 (ip us o (lw+1) (U-q*V)) ws=true:=by
    simp only [dg2.ok,zB,Nat.ble_eq,zD,Dy]
    exact ⟨trivial,trivial,trivial,by omega,⟨by omega,h1b,hz⟩,⟨h2,h2b,hy⟩⟩
   have hsg:seg (ip us o (lw+1) (U-q*V)) o (lw+1)=dg (lw+1) (U-q*V):=seg_ip _ h1
   have hnv:nv (seg (ip us o (lw+1) (U-q*V)) o (lw+1))=(U-q*V)%pw (lw+1):=by rw [hsg,Pj]
   have hii:=ip_ip (us:=us) (o:=o) (k:=lw+1) (U-q*V) ((U-q*V)%pw (lw+1)+V) h1
   generalize hu1:ip us o (lw+1) (U-q*V)=u1 at*
   have hget:(ip u1 o lw (qd u1 o ws ov (-1) lw)).getD (o+lw) 0=u1.getD (o+lw) 0:=Ji _ (by omega) (Nat.le_refl _)
   have hl2:=GM (qd u1 o ws ov (-1) lw) (show o+lw≤u1.length by omega)
   have b5:(o+lw).blt (ip u1 o lw (qd u1 o ws ov (-1) lw)).length=true:=by rw [hl2]; exact EM (by omega)
   have es:qd u1 o ws ov (-1) lw+pw lw*u1.getD (o+lw) 0=(U-q*V)%pw (lw+1)+V:=by
    rw [←hnv,EU (show o+lw<u1.length by omega)]; unfold qd; rw [hV]; omega
   have eI:=LB (us:=u1) (show o+lw<u1.length by omega) (qd u1 o ws ov (-1) lw) (u1.getD (o+lw) 0)
   replace n1:=n1 (E8 (by omega)) k2 c1 b5 c1 b5
   rw [hget,Int.add_comm (u1.getD (o+lw) 0),wu32 (_+u1.getD (o+lw) 0),eI,es,hii,e4] at n1
   have hdd:ip us o (lw+1) ((U-q*V)%pw (lw+1)+V)=ip us o (lw+1) (U%V):=by
    have hm:=Int.emod_add_mul_ediv (U-q*V) (pw (lw+1))
    have hd:=Im (lw+1) ((U-q*V)%pw (lw+1)+V) ((U-q*V)/pw (lw+1))
    rw [show (U-q*V)%pw (lw+1)+V+pw (lw+1)*((U-q*V)/pw (lw+1))=U%V by omega] at hd
    unfold ip
    rw [hd]
   rw [hdd] at n1
   refine ⟨n1.trans ?_,by simp [okV,Nat.blt],clo_spec 8 _ rfl,Bg rfl⟩
   rw [show q-1=U/V by omega]
 ·cases h
def len8:ByteArray:=⟨((List.range 256).map fun i=>UInt8.ofNat (match i with|0=>0|j+1=>(j+1).log2+1)).toArray⟩
theorem rlz.run (x_:Int):xfn Tryz.prog ⟨[],[(228,Tryz.f228)],[]⟩ [] 10 Tryz.f216 [.int .u32 x_] []=
 bif decide (x_≥65536) then bif decide (x_.fdiv (2^min (Int.toNat 16) u32.bits)≥256) then bif decide (0≤IntKind.u8.wrap ((x_.fdiv (2^min (Int.toNat 16) u32.bits)).fdiv (2^min (Int.toNat 8) u32.bits)))&&decide (IntKind.u8.wrap ((x_.fdiv (2^min (Int.toNat 16) u32.bits)).fdiv (2^min (Int.toNat 8) u32.bits))<((len8.size:Nat):Int)) then some ((Value.int i64 (i64.wrap (32-i64.wrap (i64.wrap (24)+i64.wrap (((len8.data.toList.getD (IntKind.u8.wrap ((x_.fdiv (2^min (Int.toNat 16) u32.bits)).fdiv (2^min (Int.toNat 8) u32.bits))).toNat 0).toNat:Nat):Int)))),[])) else none else bif decide (0≤IntKind.u8.wrap (x_.fdiv (2^min (Int.toNat 16) u32.bits)))&&decide (IntKind.u8.wrap (x_.fdiv (2^min (Int.toNat 16) u32.bits))<((len8.size:Nat):Int)) then some ((Value.int i64 (i64.wrap (32-i64.wrap (16+i64.wrap (((len8.data.toList.getD (IntKind.u8.wrap (x_.fdiv (2^min (Int.toNat 16) u32.bits))).toNat 0).toNat:Nat):Int)))),[])) else none else bif decide (x_≥256) then bif decide (0≤IntKind.u8.wrap (x_.fdiv (2^min (Int.toNat 8) u32.bits)))&&decide (IntKind.u8.wrap (x_.fdiv (2^min (Int.toNat 8) u32.bits))<((len8.size:Nat):Int)) then some ((Value.int i64 (i64.wrap (32-i64.wrap (i64.wrap (8)+i64.wrap (((len8.data.toList.getD (IntKind.u8.wrap (x_.fdiv (2^min (Int.toNat 8) u32.bits))).toNat 0).toNat:Nat):Int)))),[])) else none else bif decide (0≤IntKind.u8.wrap x_)&&decide (IntKind.u8.wrap x_<((len8.size:Nat):Int)) then some ((Value.int i64 (i64.wrap (32-i64.wrap (0+i64.wrap (((len8.data.toList.getD (IntKind.u8.wrap x_).toNat 0).toNat:Nat):Int)))),[])) else none:=by kernel_rfl
def rlz.run0:=fun x_ h0 h1 h2=>((((rlz.run x_).ct h0).ct h1).ct h2)
def rlz.run1:=fun x_ h0 h1 h2=>((((rlz.run x_).ct h0).cf h1).ct h2)
def rlz.run2:=fun x_ h0 h1 h2=>((((rlz.run x_).cf h0).ct h1).ct h2)
def rlz.run3:=fun x_ h0 h1 h2=>((((rlz.run x_).cf h0).cf h1).ct h2)
theorem IC:len8.size=256:=by decide+kernel
theorem Qo:((List.range 256).all fun i=>Nat.beq i 0||Nat.beq (len8.data.toList.getD i 0).toNat (i.log2+1))=true:=by decide+kernel
theorem JC {i:Nat} (h:i<256) (h0:i≠0):(len8.data.toList.getD i 0).toNat=i.log2+1:=by
 have:=List.all_eq_true.1 Qo i (List.mem_range.2 h)
 rw [Bool.or_eq_true] at this
 rcases this with h1|h1
 ·exact absurd (zE h1) h0
 ·exact zE h1
theorem If {n k:Nat} (h:n/2^k≠0):n.log2=(n/2^k).log2+k:=by
 have hp:=Nat.two_pow_pos k
 have hn:n≠0:=fun e=>h (by rw [e,Nat.zero_div])
 obtain ⟨h1,h2⟩:=(Nat.log2_eq_iff h).1 rfl
 refine (Nat.log2_eq_iff hn).2 ⟨?_,?_⟩
 ·rw [Nat.pow_add]; exact (Nat.le_div_iff_mul_le hp).1 h1
 ·rw [show (n/2^k).log2+k+1=((n/2^k).log2+1)+k by omega,Nat.pow_add]; exact (Nat.div_lt_iff_lt_mul hp).1 h2
def clz (x:Int):Int:=31-((x.toNat.log2:Nat):Int)
theorem RJ {x:Int} (h0:0<x) (h1:x<4294967296):0≤clz x∧clz x≤31∧2147483648≤x*p2 (clz x).toNat∧x*p2 (clz x).toNat<4294967296:=by
 obtain ⟨n,rfl⟩:∃n:Nat,x=n:=⟨x.toNat,by omega⟩
 obtain ⟨a,b⟩:=(Nat.log2_eq_iff (show n≠0 by omega)).1 rfl
 have hl:n.log2≤31:=by
  refine Nat.le_of_lt_succ (Nat.lt_of_not_le fun hz=> ?_)
  have:=Nat.pow_le_pow_right (show 0<2 by decide) hz
  have:(2:Nat)^(32:Nat)=4294967296:=by decide
  omega
 unfold clz
 rw [Int.toNat_natCast]
 have e:((31:Int)-((n.log2:Nat):Int)).toNat=31-n.log2:=by omega
 rw [e]
 refine ⟨by omega,by omega,?_,?_⟩
 ·have h2:=Nat.mul_le_mul_right (2^(31-n.log2)) a
  rw [←Nat.pow_add,show n.log2+(31-n.log2)=31 by omega] at h2
  simp only [p2]
  rw [←Int.natCast_mul]
  have:(2:Nat)^(31:Nat)=2147483648:=by decide
  omega
 ·have h2:=Nat.mul_lt_mul_of_pos_right b (Nat.two_pow_pos (31-n.log2))
  rw [←Nat.pow_add,show n.log2+1+(31-n.log2)=32 by omega] at h2
  simp only [p2]
  rw [←Int.natCast_mul]
  have:(2:Nat)^(32:Nat)=4294967296:=by decide
  omega
theorem KD {m:Nat} (h:m<256):IntKind.u8.wrap (m:Int)=(m:Int):=by rw [wu8]; exact Int.emod_eq_of_lt (by omega) (by omega)
theorem Ma (n:Nat) (d:Int) (hd:0≤d):(n:Int).fdiv d=(((n/d.toNat:Nat)):Int):=by
 rw [Int.fdiv_eq_ediv_of_nonneg _ hd]
 obtain ⟨m,rfl⟩:∃m:Nat,d=m:=⟨d.toNat,by omega⟩
 rw [Int.toNat_natCast]; rfl
def lz.sp:HSpec
 |[.int .u32 x],[]=>some (decide (0<x)&&decide (x<4294967296),.int .i64 (clz x),[])
 |_,_=>none
theorem lz.ok:SOK Tryz.prog 216 lz.sp:=by
  refine Dl (E:=⟨[],[(228,Tryz.f228)],[]⟩) (L:=[]) ⟨Ac,Bu ⟨Tryz.func228,by decide,rfl⟩ Aq,Aj,Ap⟩ 10 Tryz.func216 (by decide) rfl Bf fun vs bl v bl' h=> ?_
  unfold lz.sp at h
  split at h
  · rename_i x
    simp only [zS,zP,zB,zD] at h
    obtain ⟨⟨h0,h1⟩,rfl,rfl⟩:=h
    obtain ⟨n,rfl⟩:∃n:Nat,x=n:=⟨x.toNat,by omega⟩
    refine ⟨?_,by simp [okV,Nat.blt],clo_spec 8 _ rfl,Bg rfl⟩
    have p16:((2:Int)^min (Int.toNat 16) u32.bits)=65536:=rfl
    have p8':((2:Int)^min (Int.toNat 8) u32.bits)=256:=rfl
    have n0:=rlz.run0 (n:Int)
    have n1:=rlz.run1 (n:Int)
    have n2:=rlz.run2 (n:Int)
    have n3:=rlz.run3 (n:Int)
    rw [p16,p8'] at n0
    rw [p16] at n1
    rw [p8'] at n2
    rw [Ma n 65536 (by decide),Ma (n/(65536:Int).toNat) 256 (by decide),show (65536:Int).toNat=2^16 from rfl,show (256:Int).toNat=2^8 from rfl,Nat.div_div_eq_div_mul,show 2^16*2^8=2^24 from rfl] at n0
    rw [Ma n 65536 (by decide),show (65536:Int).toNat=2^16 from rfl] at n1
    rw [Ma n 256 (by decide),show (256:Int).toNat=2^8 from rfl] at n2
    have q16:(2:Nat)^16=65536:=rfl
    have q24:(2:Nat)^24=16777216:=rfl
    have q8:(2:Nat)^8=256:=rfl
    by_cases c1:65536≤n
    · by_cases c2:256≤n/2^16
      · have hz:n/2^24<256:=by omega
        have hz0:n/2^24≠0:=by omega
        rw [KD hz,Int.toNat_natCast,JC hz hz0,IC] at n0
        have hs:=If hz0
        refine (n0 (dtrue (by omega)) (dtrue (by omega)) (dtrue2 (by omega) (by omega))).trans ?_
        have hl:(n/2^24).log2<8:=(Nat.log2_lt hz0).2 (by omega)
        generalize (n/2^24).log2=l at*
        rw [w64 (n:=24) (by omega) (by omega),w64 (n:=((l+1:Nat):Int)) (by omega) (by omega),w64 (n:=24+((l+1:Nat):Int)) (by omega) (by omega),w64 (by omega) (by omega)]
        refine congrArg (fun z=>some (Value.int i64 z,([]:List Blk))) ?_
        unfold clz
        rw [Int.toNat_natCast]; omega
      · have hz:n/2^16<256:=by omega
        have hz0:n/2^16≠0:=by omega
        rw [KD hz,Int.toNat_natCast,JC hz hz0,IC] at n1
        have hs:=If hz0
        refine (n1 (dtrue (by omega)) (dfalse (by omega)) (dtrue2 (by omega) (by omega))).trans ?_
        have hl:(n/2^16).log2<8:=(Nat.log2_lt hz0).2 (by omega)
        generalize (n/2^16).log2=l at*
        rw [w64 (n:=((l+1:Nat):Int)) (by omega) (by omega),w64 (n:=16+((l+1:Nat):Int)) (by omega) (by omega),w64 (by omega) (by omega)]
        refine congrArg (fun z=>some (Value.int i64 z,([]:List Blk))) ?_
        unfold clz
        rw [Int.toNat_natCast]; omega
    · by_cases c2:256≤n
      · have hz:n/2^8<256:=by omega
        have hz0:n/2^8≠0:=by omega
        rw [KD hz,Int.toNat_natCast,JC hz hz0,IC] at n2
        have hs:=If hz0
        refine (n2 (dfalse (by omega)) (dtrue (by omega)) (dtrue2 (by omega) (by omega))).trans ?_
        have hl:(n/2^8).log2<8:=(Nat.log2_lt hz0).2 (by omega)
        generalize (n/2^8).log2=l at*
        rw [w64 (n:=8) (by omega) (by omega),w64 (n:=((l+1:Nat):Int)) (by omega) (by omega),w64 (n:=8+((l+1:Nat):Int)) (by omega) (by omega),w64 (by omega) (by omega)]
        refine congrArg (fun z=>some (Value.int i64 z,([]:List Blk))) ?_
        unfold clz
        rw [Int.toNat_natCast]; omega
      · have hz:n<256:=by omega
        rw [KD hz,Int.toNat_natCast,JC hz (by omega),IC] at n3
        refine (n3 (dfalse (by omega)) (dfalse (by omega)) (dtrue2 (by omega) (by omega))).trans ?_
        have hl:n.log2<8:=(Nat.log2_lt (show n≠0 by omega)).2 (by omega)
        generalize hll:n.log2=l at*
        rw [w64 (n:=((l+1:Nat):Int)) (by omega) (by omega),w64 (n:=0+((l+1:Nat):Int)) (by omega) (by omega),w64 (by omega) (by omega)]
        refine congrArg (fun z=>some (Value.int i64 z,([]:List Blk))) ?_
        unfold clz
        rw [Int.toNat_natCast]; omega
  · cases h
theorem Fg:∀(a b:Nat) (v:Int),dg (a+b) v=dg a v++dg b (v/pw a)
 |0,b,v=>by rw [Nat.zero_add,GZ,Int.ediv_one]; rfl
 | a+1,b,v=>by
  rw [show a+1+b=(a+b)+1 by omega]
  show v%4294967296::dg (a+b) (v/4294967296)=v%4294967296::(dg a (v/4294967296)++_)
  rw [Fg a b,Eb,Int.ediv_ediv,if_neg (by omega),Int.sub_zero]
theorem M6 {a b c:Int} (hb:0<b) (hc:0<c):a%(b*c)/b=a/b%c:=by
 have h1:=Int.emod_add_mul_ediv a (b*c)
 have h2:a/b/c=a/(b*c):=by rw [Int.ediv_ediv,if_neg (by omega),Int.sub_zero]
 have h3:a%(b*c)=a+b*(-(c*(a/b/c))):=by rw [h2,Int.mul_neg,←Int.mul_assoc]; omega
 rw [h3,Int.add_mul_ediv_left _ _ (by omega)]
 have:=Int.emod_add_mul_ediv (a/b) c
 omega
theorem NW {a b c:Int} (hb:0<b) (h:a<c*b):a/b<c:=Int.ediv_lt_of_lt_mul hb h
theorem dv_step {U V:Int} {j n lu:Nat} (hV:0<V) (hVn:V<pw n) (hj:j+n+1≤lu):
  nv (seg (dg lu (U%(V*pw (j+1)))) j (n+1))=U%(V*pw (j+1))/pw j∧U%(V*pw (j+1))/pw j<V*4294967296∧
  ip (dg lu (U%(V*pw (j+1)))) j (n+1) (U%(V*pw (j+1))/pw j%V)=dg lu (U%(V*pw j))∧U%(V*pw (j+1))/pw j/V=U/(V*pw j)%4294967296:=by
 have hp:=Ep j
 have hp1:=Ep (j+1)
 have hVp:0<V*pw (j+1):=Int.mul_pos hV hp1
 have hVj:0<V*pw j:=Int.mul_pos hV hp
 have R0:=Int.emod_nonneg U (show V*pw (j+1)≠0 by omega)
 have R1:=Int.emod_lt_of_pos U hVp
 have hR':U%(V*pw (j+1))%(V*pw j)=U%(V*pw j):=by
  rw [Eb,Int.mul_left_comm,Int.mul_comm 4294967296,Int.emod_emod_of_dvd _ ⟨4294967296,rfl⟩]
 have hd4:U%(V*pw (j+1))/(V*pw j)=U/(V*pw j)%4294967296:=by
  rw [Eb,Int.mul_left_comm,Int.mul_comm 4294967296]; exact M6 hVj (by decide)
 generalize hR:U%(V*pw (j+1))=R at*
 have hRj0:0≤R/pw j:=Int.ediv_nonneg R0 (by omega)
 have hRj:R/pw j<V*4294967296:=NW hp (by rw [Int.mul_assoc,←Eb]; exact R1)
 have hb:V*4294967296<pw (n+1):=by rw [Eb,Int.mul_comm 4294967296]; omega
 have e1:dg lu R=dg j R++(dg (n+1) (R/pw j)++dg (lu-(j+n+1)) (R/pw j/pw (n+1))):=by
  rw [←Fg,←Fg,show j+(n+1+(lu-(j+n+1)))=lu by omega]
 have hz:R/pw j/pw (n+1)=0:=Int.ediv_eq_zero_of_lt hRj0 (by omega)
 have hseg:seg (dg lu R) j (n+1)=dg (n+1) (R/pw j):=by
  rw [e1]; unfold seg
  rw [List.drop_left' (Cw _ _),List.take_left' (Cw _ _)]
 refine ⟨by rw [hseg,G0 _ _ hRj0 (by omega)],hRj,?_,?_⟩
 ·have w0:=Int.emod_nonneg (R/pw j) (show V≠0 by omega)
  have w1:=Int.emod_lt_of_pos (R/pw j) hV
  have hw:R%(V*pw j)/pw j=R/pw j%V:=by rw [Int.mul_comm]; exact M6 hp hV
  have hn1:pw n≤pw (n+1):=by rw [Eb]; have:=Ep n; omega
  have e2:dg lu (R%(V*pw j))=dg j (R%(V*pw j))++(dg (n+1) (R/pw j%V)++dg (lu-(j+n+1)) 0):=by
   have:R/pw j%V/pw (n+1)=0:=Int.ediv_eq_zero_of_lt w0 (by omega)
   rw [←this,←Fg,←hw,←Fg,show j+(n+1+(lu-(j+n+1)))=lu by omega]
  have e3:dg j (R%(V*pw j))=dg j R:=by
   have h1:=Int.emod_add_mul_ediv R (V*pw j)
   have h2:=Im j (R%(V*pw j)) (V*(R/(V*pw j)))
   rw [←h2,←Int.mul_assoc,Int.mul_comm (pw j),h1]
  rw [←hR',e2,e3]
  unfold ip
  have e5:(dg j R++(dg (n+1) (R/pw j)++dg (lu-(j+n+1)) 0)).drop (j+(n+1))=dg (lu-(j+n+1)) 0:=by
   rw [←List.append_assoc,List.drop_left' (by rw [List.length_append,Cw,Cw])]
  rw [e1,hz,List.take_left' (Cw _ _),e5]
 ·rw [←hd4,Int.ediv_ediv,if_neg (by omega),Int.sub_zero,Int.mul_comm]
section
variable {N:Nat→Prop} {xe:X} {Se:St} (k:Int) (n cv lu cu:Nat) (nn:Int) (lq cq:Nat) (j:Int) (vs us qs xs ys:List Int) (nx:Nat)
abbrev dv0.st:St:=⟨gbuild [(8,.int .i64 k),(9,.slice (some ⟨306,0,none⟩) n cv),(10,.slice (some ⟨386,0,none⟩) lu cu),(11,.int .i64 nn),(12,.slice (some ⟨530,0,none⟩) lq cq),(13,.int .i64 j)] 0 110,[(306,.is .u32 vs 64),(386,.is .u32 us 64),(530,.is .u32 qs 64),(0,.is .u32 xs 64),(1,.is .u32 ys 64)],nx⟩
abbrev dv0.lk:=RX.lk [8,9,10,11,12,13] [306,386,530,0,1]
theorem dv0.rnd:rd Tryz.prog ⟨[(218,digit.sp)],[],[]⟩ [] 5 (Ay Tryz.f203 0) (dv0.st k n cv lu cu nn lq cq j vs us qs xs ys nx) 110 [8,9,10,11,12,13] [306,386,530,0,1]=
 bif decide (j≥0) then bif decide (0≤i64.wrap (i64.wrap (j+nn)+1))&&decide (i64.wrap (i64.wrap (j+nn)+1)≤((cu:Nat):Int))&&(decide (0≤j)&&decide (j≤(((i64.wrap (i64.wrap (j+nn)+1)).toNat:Nat):Int))) then bif ((i64.wrap (i64.wrap (j+nn)+1)).toNat-j.toNat).beq (n+1)&&(Nat.ble 2 n&&(Di (bif cu.beq j.toNat then 0 else 0+j.toNat*1) ((i64.wrap (i64.wrap (j+nn)+1)).toNat-j.toNat) us&&(Di 0 n vs&&(decide (2147483648≤vs.getD (0+(n-1)) 0)&&decide (nv (seg us (bif cu.beq j.toNat then 0 else 0+j.toNat*1) (n+1))<nv (seg vs 0 n)*4294967296))))) then bif decide (0≤j)&&decide (j<((lq:Nat):Int)) then bif (0+j.toNat*1).blt qs.length then dv0.lk .normal (dv0.st k n cv lu cu nn lq cq (i64.wrap (j-1)) vs (ip us (bif cu.beq j.toNat then 0 else 0+j.toNat*1) (n+1) (nv (seg us (bif cu.beq j.toNat then 0 else 0+j.toNat*1) (n+1))%nv (seg vs 0 n))) (qs.set (0+j.toNat*1) (nv (seg us (bif cu.beq j.toNat then 0 else 0+j.toNat*1) (n+1))/nv (seg vs 0 n))) xs ys nx) else none else none else none else none else some ((X.exit 0,[Value.int i64 k,Value.slice (some {block:=306,off:=0}) n cv,Value.slice (some {block:=386,off:=0}) lu cu,Value.int i64 nn,Value.slice (some {block:=530,off:=0}) lq cq,Value.int i64 j],[some (Blk.is u32 vs 64),some (Blk.is u32 us 64),some (Blk.is u32 qs 64),some (Blk.is u32 xs 64),some (Blk.is u32 ys 64)])):=by kernel_rfl
def dv0.step0:=fun h0 h1 h2 h3 h4 (ih:Lq Tryz.prog N (Ay Tryz.f203 0) _ xe Se)=>Lq.toK (f:=5) ⟨Aa HS.ok Ac,Aq,Aj,Ap⟩ Bs ((((((dv0.rnd k n cv lu cu nn lq cq j vs us qs xs ys nx).ct h0).ct h1).ct h2).ct h3).ct h4) rfl rfl ih
def dv0.stop1:=fun h0=>Lq.stop (S2:=⟨gbuild [(8,Value.int i64 k),(10,Value.slice (some {block:=386,off:=0}) lu cu),(11,Value.int i64 nn),(12,Value.slice (some {block:=530,off:=0}) lq cq)] 0 110,[(306,Blk.is u32 vs 64),(386,Blk.is u32 us 64),(530,Blk.is u32 qs 64),(0,Blk.is u32 xs 64),(1,Blk.is u32 ys 64)],nx⟩) (N:=N) (f:=5) ⟨Aa HS.ok Ac,Aq,Aj,Ap⟩ Bs ((dv0.rnd k n cv lu cu nn lq cq j vs us qs xs ys nx).cf h0) (fun q=>by cases q) (fun h=>q_of (.cons ⟨rfl,bint⟩ (.cons ⟨rfl,(bslice (bname h (m:=386) rfl))⟩ (.cons ⟨rfl,bint⟩ (.cons ⟨rfl,(bslice (bname h (m:=530) rfl))⟩ .nil)))) (.cons ⟨rfl,(bname h (m:=306) rfl),rfl⟩ (.cons ⟨rfl,(bname h (m:=386) rfl),rfl⟩ (.cons ⟨rfl,(bname h (m:=530) rfl),rfl⟩ (.cons ⟨rfl,(bname h (m:=0) rfl),rfl⟩ (.cons ⟨rfl,(bname h (m:=1) rfl),rfl⟩ .nil))))))
end
def dv0.ok (n lu cu:Nat) (nn:Int) (lq:Nat) (j:Int) (vs us qs:List Int):Bool:=decide (nn=(n:Int))&&(Nat.beq cu lu&&(Nat.beq (lq+n) lu&&(decide (j+1=(lq:Int))&&(decide (qs=List.replicate lq 0)&&(Nat.beq us.length lu&&(Di 0 lu us&&(Nat.ble 2 n&&(Di 0 n vs&&(decide (2147483648≤vs.getD (n-1) 0)&&decide (nv us<nv (seg vs 0 n)*pw lq))))))))))
abbrev dv0.fin (k:Int) (n cv lu cu:Nat) (nn:Int) (lq cq:Nat) (vs:List Int) (us qs xs ys:List Int) (nx:Nat):St:=⟨gbuild [(8,Value.int i64 k),(10,Value.slice (some {block:=386,off:=0}) lu cu),(11,Value.int i64 nn),(12,Value.slice (some {block:=530,off:=0}) lq cq)] 0 110,[(306,Blk.is u32 vs 64),(386,Blk.is u32 us 64),(530,Blk.is u32 qs 64),(0,Blk.is u32 xs 64),(1,Blk.is u32 ys 64)],nx⟩
def dv0.lt (k:Int) (n cv lu cu:Nat) (nn:Int) (lq cq:Nat) (j:Int) (vs us qs xs ys:List Int) (nx:Nat):LT:= .got (dv0.ok n lu cu nn lq j vs us qs) (.exit 0) (dv0.fin k n cv lu cu nn lq cq vs (dg lu (nv us%nv (seg vs 0 n))) (dg lq (nv us/nv (seg vs 0 n))) xs ys nx)
theorem dv0.go {N:Nat→Prop} (k:Int) (n cv lu lq cq:Nat) (vs:List Int) (U:Int) (xs ys:List Int) (nx:Nat) (hn:2≤n) (hq:lq+n=lu) (hl:lu≤4294967296) (hv:Di 0 n vs=true) (ht:2147483648≤vs.getD (n-1) 0) (hV:0<nv (seg vs 0 n)) (hVn:nv (seg vs 0 n)<pw n):∀(j:Nat),j≤lq→Lq Tryz.prog N (Ay Tryz.f203 0) (dv0.st k n cv lu lu (n:Int) lq cq ((j:Int)-1) vs (dg lu (U%(nv (seg vs 0 n)*pw j))) (List.replicate j 0++dg (lq-j) (U/(nv (seg vs 0 n)*pw j))) xs ys nx) (.exit 0) (dv0.fin k n cv lu lu (n:Int) lq cq vs (dg lu (U%nv (seg vs 0 n))) (dg lq (U/nv (seg vs 0 n))) xs ys nx)
 | 0,_=>by
  rw [GZ,Int.mul_one]
  exact dv0.stop1 _ _ _ _ _ _ _ _ _ _ _ _ _ _ _ (dfalse (by omega))
 | j + 1,hj=>by
  have e0:(((j+1:Nat):Int)-1)=(j:Int):=by omega
  have e1:i64.wrap ((j:Int)-1)=(j:Int)-1:=w64 (by omega) (by omega)
  have e2:i64.wrap (i64.wrap ((j:Int)+(n:Int))+1)=((j+n+1:Nat):Int):=by rw [w64 (n:=(j:Int)+(n:Int)) (by omega) (by omega),w64 (by omega) (by omega)]; omega
  obtain ⟨s1,s2,s3,s4⟩:=dv_step (U:=U) (j:=j) (n:=n) (lu:=lu) hV hVn (by omega)
  have ih:=dv0.go (N:=N) k n cv lu lq cq vs U xs ys nx hn hq hl hv ht hV hVn j (by omega)
  have hb:(bif lu.beq ((j:Int)).toNat then 0 else 0+((j:Int)).toNat*1)=j:=by
   rw [Int.toNat_natCast,Nat.mul_one,Nat.zero_add]
   have:lu.beq j=false:=Bool.eq_false_iff.2 (fun h=>by have:=zE h; omega)
   rw [this]; rfl
  have hd:((((j+n+1:Nat):Int)).toNat-((j:Int)).toNat)=n+1:=by rw [Int.toNat_natCast,Int.toNat_natCast]; omega
  have ez:0+((j:Int)).toNat*1=j:=by simp
  rw [e0]
  refine dv0.step0 _ _ _ _ _ _ _ _ _ _ _ _ _ _ _ (dtrue (by omega)) ?_ ?_ (dtrue2 (by omega) (by omega)) (by rw [ez]; simp only [List.length_append,List.length_replicate,Cw]; exact EM (by omega)) ?_
  ·rw [e2,zB]
   exact ⟨dtrue2 (by omega) (by omega),dtrue2 (by omega) (by rw [Int.toNat_natCast]; omega)⟩
  ·rw [e2,hd,hb,Nat.zero_add]
   simp only [zB,Nat.ble_eq,zD,Nat.beq_eq]
   refine ⟨trivial,hn,Dy.2 ⟨by rw [Cw]; omega,by omega,F4 _ _⟩,hv,ht,?_⟩
   rw [s1]; exact s2
  ·rw [hb,ez,e1,s1,s3,s4,Ot]
   rw [show lq-j=lq-(j+1)+1 by omega] at ih
   have hdg:dg (lq-(j+1)+1) (U/(nv (seg vs 0 n)*pw j))=U/(nv (seg vs 0 n)*pw j)%4294967296::dg (lq-(j+1)) (U/(nv (seg vs 0 n)*pw (j+1))):=by
    show _::dg _ (U/(nv (seg vs 0 n)*pw j)/4294967296)=_
    rw [Int.ediv_ediv,if_neg (by have:=Int.mul_pos hV (Ep j); omega),Int.sub_zero,Int.mul_assoc,Int.mul_comm (pw j),←Eb]
   rw [hdg] at ih
   exact ih
theorem dv0.lp {N:Nat→Prop} (k:Int) (n cv lu cu:Nat) (nn:Int) (lq cq:Nat) (j:Int) (vs us qs xs ys:List Int) (nx:Nat) {x:X} {S':St} (h:(dv0.lt k n cv lu cu nn lq cq j vs us qs xs ys nx).at=some (x,S')):Lq Tryz.prog N (Ay Tryz.f203 0) (dv0.st k n cv lu cu nn lq cq j vs us qs xs ys nx) x S':=by
 obtain ⟨h1,rfl,rfl⟩:=Ez h
 simp only [dv0.ok,zB,Nat.ble_eq,zD] at h1
 obtain ⟨rfl,h2,h3,h4,rfl,h6,h7,h8,h9,h10,h11⟩:=h1
 obtain rfl:=zE h2
 have h3:=zE h3
 have h6:=zE h6
 obtain ⟨a1,a2,a3⟩:=Dy.1 h7
 obtain ⟨b1,b2,b3⟩:=Dy.1 h9
 obtain rfl:j=(lq:Int)-1:=by omega
 have hU0:=Dx a3
 have hVn:=FF (EB b3 0 n)
 rw [EL b1] at hVn
 have hpw:=Ep lq
 have hV:0<nv (seg vs 0 n):=by
  refine Int.lt_of_not_ge fun hz=> ?_
  have:nv (seg vs 0 n)*pw lq≤0:=Int.mul_nonpos_of_nonpos_of_nonneg hz (by omega)
  omega
 have:=dv0.go (N:=N) k n cv cu lq cq vs (nv us) xs ys nx h8 h3 a2 h9 h10 hV hVn lq (Nat.le_refl _)
 rw [Int.emod_eq_of_lt hU0 h11,Nat.sub_self] at this
 have e:=Ho a3
 rw [h6] at e
 rw [e] at this
 simp only [dg,List.append_nil] at this
 exact this
def dv0.t:LSpec:=fun S=>match RX.nth S.tmps 8,RX.nth S.tmps 9,RX.nth S.tmps 10,RX.nth S.tmps 11,RX.nth S.tmps 12,RX.nth S.tmps 13,RX.look S.heap 306,RX.look S.heap 386,RX.look S.heap 530,RX.look S.heap 0,RX.look S.heap 1 with
 | .int .i64 k,.slice (some ⟨306,0,none⟩) n cv,.slice (some ⟨386,0,none⟩) lu cu,.int .i64 nn,.slice (some ⟨530,0,none⟩) lq cq,.int .i64 j,some (.is .u32 vs 64),some (.is .u32 us 64),some (.is .u32 qs 64),some (.is .u32 xs 64),some (.is .u32 ys 64)=>bif Nat.beq S.tmps.length 110 then some (dv0.lt k n cv lu cu nn lq cq j vs us qs xs ys S.nxt) else none
 |_,_,_,_,_,_,_,_,_,_,_=>none
theorem dv0.lok {N:Nat→Prop} :LOKn Tryz.prog N (Ay Tryz.f203 0) (dv0.t):=by
 refine FS fun S lt x S' ht hat=> ?_
 unfold dv0.t at ht
 split at ht
 ·rename_i k n cv lu cu nn lq cq j vs us qs xs ys h8 h9 h10 h11 h12 h13 g306 g386 g530 g0 g1
  cases hb:Nat.beq S.tmps.length 110 with
  |false=>rw [hb] at ht; cases ht
  | true=>
   rw [hb] at ht
   injection ht with ht
   subst ht
   have hb:=zE hb
   exact .enter (fun h=>FW hb (.cons ⟨h8,bnth h h8⟩ (.cons ⟨h9,bnth h h9⟩ (.cons ⟨h10,bnth h h10⟩ (.cons ⟨h11,bnth h h11⟩ (.cons ⟨h12,bnth h h12⟩ (.cons ⟨h13,bnth h h13⟩ .nil)))))) (.cons ⟨g306,bname h g306,rfl⟩ (.cons ⟨g386,bname h g386,rfl⟩ (.cons ⟨g530,bname h g530,rfl⟩ (.cons ⟨g0,bname h g0,rfl⟩ (.cons ⟨g1,bname h g1,rfl⟩ .nil)))))) (dv0.lp _ _ _ _ _ _ _ _ _ _ _ _ _ _ _ hat)
 ·cases ht
theorem KP {n i:Nat} (h:i<n) (v:Int):(dg n v).getD i 0=v/pw i%4294967296:=by
 obtain ⟨d,rfl⟩:=Nat.exists_eq_add_of_lt h
 rw [show i+d+1=i+(d+1) by omega,Fg,List.getD_eq_getElem?_getD,List.getElem?_append_right (by rw [Cw]; omega),Cw,Nat.sub_self]
 rfl
theorem p2_ediv {k:Nat} (v:Int):v.fdiv (2^k)=v/p2 k:=by
 rw [Int.fdiv_eq_ediv_of_nonneg _ (by have:=IZ k; have h:((2:Int)^k)=p2 k:=(Int.natCast_pow 2 k).symm; omega)]
 rw [show ((2:Int)^k)=p2 k from (Int.natCast_pow 2 k).symm]
theorem QM {R:Int} {i k:Nat} (hk:k≤32):(R/pw i%4294967296+4294967296*(R/pw (i+1)%4294967296))/p2 k%4294967296=R/p2 k/pw i%4294967296:=by
 have hp:=Ep i
 have h2:=IZ k
 have hs:=Kx hk
 have e1:R/pw (i+1)=R/pw i/4294967296:=by rw [Int.ediv_ediv,if_neg (by omega),Int.sub_zero,Eb,Int.mul_comm]
 have e2:R/p2 k/pw i=R/pw i/p2 k:=by rw [Int.ediv_ediv,Int.ediv_ediv,if_neg (by omega),if_neg (by omega),Int.sub_zero,Int.sub_zero,Int.mul_comm]
 rw [e1,e2]
 generalize R/pw i=y
 have e3:y=(y%4294967296+4294967296*(y/4294967296%4294967296))+p2 k*(4294967296*(p2 (32-k)*(y/4294967296/4294967296))):=by
  rw [Int.mul_left_comm (p2 k),←Int.mul_assoc (p2 k),hs]; omega
 have e4:y/p2 k=(y%4294967296+4294967296*(y/4294967296%4294967296))/p2 k+4294967296*(p2 (32-k)*(y/4294967296/4294967296)):=by
  rw [←Int.add_mul_ediv_left _ _ (show p2 k≠0 by omega),←e3]
 rw [e4]
 omega
section
variable {N:Nat→Prop} {xe:X} {Se:St} (k:Int) (lu cu lq cq n cr:Nat) (z i:Int) (us qs xs ys:List Int)
abbrev dv2.st:St:=⟨gbuild [(8,.int .i64 k),(10,.slice (some ⟨386,0,none⟩) lu cu),(12,.slice (some ⟨530,0,none⟩) lq cq),(14,.slice (some ⟨386,0,none⟩) n cr),(82,.int .i64 z),(83,.int .i64 i)] 0 110,[(386,.is .u32 us 64),(530,.is .u32 qs 64),(0,.is .u32 xs 64),(1,.is .u32 ys 64)],770⟩
abbrev dv2.lk:=RX.lk [8,10,12,14,82,83] [386,530,0,1]
theorem dv2.rnd:rd Tryz.prog ⟨[],[],[]⟩ [] 3 (Ay Tryz.f203 2) (dv2.st k lu cu lq cq n cr z i us qs xs ys) 110 [8,10,12,14,82,83] [386,530,0,1]=
 bif decide (i<z) then bif decide (0≤i64.wrap (i+1))&&decide (i64.wrap (i+1)<((lu:Nat):Int)) then bif (0+(i64.wrap (i+1)).toNat*1).blt us.length then bif decide (0≤i)&&decide (i<((lu:Nat):Int)) then bif (0+i.toNat*1).blt us.length then bif decide (0≤k) then bif decide (0≤i)&&decide (i<((n:Nat):Int)) then bif (0+i.toNat*1).blt us.length then dv2.lk .normal (dv2.st k lu cu lq cq n cr z (i64.wrap (i+1)) (us.set (0+i.toNat*1) (u32.wrap ((E6 BinOp.or u64 (u64.wrap (u64.wrap (us.getD (0+(i64.wrap (i+1)).toNat*1) 0)*2^min (Int.toNat 32) u64.bits)) (u64.wrap (us.getD (0+i.toNat*1) 0))).fdiv (2^min k.toNat u64.bits)))) qs xs ys) else none else none else none else none else none else none else none else dv2.lk (.exit 2) (dv2.st k lu cu lq cq n cr z i us qs xs ys):=by kernel_rfl
def dv2.step0:=fun h0 h1 h2 h3 h4 h5 h6 h7 (ih:Lq Tryz.prog N (Ay Tryz.f203 2) _ xe Se)=>Lq.to (f:=3) ⟨Ac,Aq,Aj,Ap⟩ Bs (((((((((dv2.rnd k lu cu lq cq n cr z i us qs xs ys).ct h0).ct h1).ct h2).ct h3).ct h4).ct h5).ct h6).ct h7) rfl ih
def dv2.stop1:=fun h0=>Lq.end (N:=N) (f:=3) ⟨Ac,Aq,Aj,Ap⟩ Bs ((dv2.rnd k lu cu lq cq n cr z i us qs xs ys).cf h0) (fun q=>by cases q) rfl
end
def dv2.ok (k:Int) (lu n:Nat) (z i:Int) (us:List Int):Bool:=decide (0≤k)&&(decide (k≤31)&&(decide (z=(n:Int))&&(decide (i=0)&&(Nat.ble (n+1) lu&&(Nat.beq us.length lu&&Di 0 lu us)))))
def dv2.lt (k:Int) (lu cu lq cq n cr:Nat) (z i:Int) (us qs xs ys:List Int):LT:= .got (dv2.ok k lu n z i us) (.exit 2) (dv2.st k lu cu lq cq n cr z z (ip us 0 n (nv us/p2 k.toNat)) qs xs ys)
theorem dv2.go {N:Nat→Prop} (k:Nat) (lu cu lq cq n cr:Nat) (R:Int) (qs xs ys:List Int) (hk:k≤31) (hn:n+1≤lu) (hl:lu≤4294967296):∀(j i:Nat),i+j=n→Lq Tryz.prog N (Ay Tryz.f203 2) (dv2.st (k:Int) lu cu lq cq n cr (n:Int) (i:Int) (ip (dg lu R) 0 i (R/p2 k)) qs xs ys) (.exit 2) (dv2.st (k:Int) lu cu lq cq n cr (n:Int) (n:Int) (ip (dg lu R) 0 n (R/p2 k)) qs xs ys)
 | 0,i,h=>by
  obtain rfl:i=n:=by omega
  exact dv2.stop1 _ _ _ _ _ _ _ _ _ _ _ _ _ (dfalse (by omega))
 | j +1,i,h=>by
  have e1:i64.wrap ((i:Int)+1)=((i+1:Nat):Int):=by rw [w64 (by omega) (by omega)]; omega
  have ea:0+((i:Int)).toNat*1=0+i:=by simp
  have eb:0+(((i+1:Nat):Int)).toNat*1=0+(i+1):=by simp
  have hlen:(ip (dg lu R) 0 i (R/p2 k)).length=lu:=by rw [GM _ (by rw [Cw]; omega),Cw]
  have g0:(ip (dg lu R) 0 i (R/p2 k)).getD (0+i) 0=R/pw i%4294967296:=by
   rw [Ji _ (by rw [Cw]; omega) (Nat.le_refl _),Nat.zero_add,KP (by omega)]
  have g1:(ip (dg lu R) 0 i (R/p2 k)).getD (0+(i+1)) 0=R/pw (i+1)%4294967296:=by
   rw [Ji _ (by rw [Cw]; omega) (by omega),Nat.zero_add,KP (by omega)]
  have ih:=dv2.go (N:=N) k lu cu lq cq n cr R qs xs ys hk hn hl j (i+1) (by omega)
  have em:min ((k:Int)).toNat u64.bits=k:=by rw [Int.toNat_natCast]; exact Nat.min_eq_left (by show k≤64; omega)
  have a0:=Int.emod_nonneg (R/pw i) (show (4294967296:Int)≠0 by decide)
  have a1:=Int.emod_lt_of_pos (R/pw i) (show (0:Int)<4294967296 by decide)
  have b0:=Int.emod_nonneg (R/pw (i+1)) (show (4294967296:Int)≠0 by decide)
  have b1:=Int.emod_lt_of_pos (R/pw (i+1)) (show (0:Int)<4294967296 by decide)
  refine dv2.step0 _ _ _ _ _ _ _ _ _ _ _ _ _ (dtrue (by omega)) (by rw [e1]; exact dtrue2 (by omega) (by omega)) (by rw [e1,eb,hlen]; exact EM (by omega)) (dtrue2 (by omega) (by omega)) (by rw [ea,hlen]; exact EM (by omega)) (dtrue (by omega)) (dtrue2 (by omega) (by omega)) (by rw [ea,hlen]; exact EM (by omega)) ?_
  rw [e1,eb,ea,g0,g1,em,u64of (n:=R/pw (i+1)%4294967296) b0 (by omega),ND a0 a1 b0 b1,p2_ediv,wu32,QM (by omega)]
  have hset:=LB (us:=dg lu R) (o:=0) (k:=i) (by rw [Cw]; omega) (R/p2 k) 0
  rw [Int.add_zero,Int.mul_zero,Int.add_zero] at hset
  rw [hset]
  exact ih
theorem dv2.lp {N:Nat→Prop} (k:Int) (lu cu lq cq n cr:Nat) (z i:Int) (us qs xs ys:List Int) {x:X} {S':St} (h:(dv2.lt k lu cu lq cq n cr z i us qs xs ys).at=some (x,S')):Lq Tryz.prog N (Ay Tryz.f203 2) (dv2.st k lu cu lq cq n cr z i us qs xs ys) x S':=by
 obtain ⟨h1,rfl,rfl⟩:=Ez h
 simp only [dv2.ok,zB,Nat.ble_eq,zD] at h1
 obtain ⟨k0,k1,rfl,rfl,h5,h6,h7⟩:=h1
 have h6:=zE h6
 obtain ⟨a1,a2,a3⟩:=Dy.1 h7
 obtain ⟨m,rfl⟩:∃m:Nat,k=m:=⟨k.toNat,by omega⟩
 have:=dv2.go (N:=N) m lu cu lq cq n cr (nv us) qs xs ys (by omega) h5 a2 n 0 (by omega)
 have e:=Ho a3
 rw [h6] at e
 rw [e,MY] at this
 rw [Int.toNat_natCast]
 exact this
def dv2.t:LSpec:=fun S=>match RX.nth S.tmps 8,RX.nth S.tmps 10,RX.nth S.tmps 12,RX.nth S.tmps 14,RX.nth S.tmps 82,RX.nth S.tmps 83,RX.look S.heap 386,RX.look S.heap 530,RX.look S.heap 0,RX.look S.heap 1,S.nxt with
 | .int .i64 k,.slice (some ⟨386,0,none⟩) lu cu,.slice (some ⟨530,0,none⟩) lq cq,.slice (some ⟨386,0,none⟩) n cr,.int .i64 z,.int .i64 i,some (.is .u32 us 64),some (.is .u32 qs 64),some (.is .u32 xs 64),some (.is .u32 ys 64),770=>bif Nat.beq S.tmps.length 110 then some (dv2.lt k lu cu lq cq n cr z i us qs xs ys) else none
 |_,_,_,_,_,_,_,_,_,_,_=>none
theorem dv2.lok {N:Nat→Prop} :LOKn Tryz.prog N (Ay Tryz.f203 2) (dv2.t):=by
 refine FS fun S lt x S' ht hat=> ?_
 unfold dv2.t at ht
 split at ht
 ·rename_i k lu cu lq cq n cr z i us qs xs ys h8 h10 h12 h14 h82 h83 g386 g530 g0 g1 hnx
  cases hb:Nat.beq S.tmps.length 110 with
  |false=>rw [hb] at ht; cases ht
  | true=>
   rw [hb] at ht
   injection ht with ht
   subst ht
   have hb:=zE hb
   obtain ⟨T,H,_⟩:=S
   subst hnx
   exact .enter (fun h=>FW hb (.cons ⟨h8,bnth h h8⟩ (.cons ⟨h10,bnth h h10⟩ (.cons ⟨h12,bnth h h12⟩ (.cons ⟨h14,bnth h h14⟩ (.cons ⟨h82,bnth h h82⟩ (.cons ⟨h83,bnth h h83⟩ .nil)))))) (.cons ⟨g386,bname h g386,rfl⟩ (.cons ⟨g530,bname h g530,rfl⟩ (.cons ⟨g0,bname h g0,rfl⟩ (.cons ⟨g1,bname h g1,rfl⟩ .nil))))) (dv2.lp _ _ _ _ _ _ _ _ _ _ _ _ _ hat)
 ·cases ht
end Go.Proofs.YtpejalpgficopaaGreatDoor.G
end
