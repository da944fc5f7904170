/- A part of what the law's proof leans on. PACKED BY pack.py of this repo. -/
import Derived.Test.YtpejalpgficopaaGreatDoorF8
set_option linter.unusedVariables false
set_option linter.unusedSimpArgs false
set_option linter.unusedSectionVars false
set_option linter.defProp false
set_option maxRecDepth 100000
open Go.IntKind (i64 u64 u32)
section
namespace Go.Proofs.YtpejalpgficopaaGreatDoor.G
open Go Go.Proofs RX
theorem badd0.run (oa la ca ob lb cb:Nat) (xs ys:List Int):xfnN Tryz.prog ⟨[(205,E2.sp)],[(207,Tryz.f207)],[]⟩ [(0,addL)] 10 Tryz.f189 [.slice (some ⟨0,oa,none⟩) la ca,.slice (some ⟨1,ob,none⟩) lb cb] [.is .u32 xs 64,.is .u32 ys 64] [146]=
 bif decide (((la:Nat):Int)<((lb:Nat):Int)) then bif decide (0≤i64.wrap (((lb:Nat):Int)+1))&&(decide (i64.wrap (((lb:Nat):Int)+1)≤i64.wrap (((lb:Nat):Int)+1))&&(decide (i64.wrap (((lb:Nat):Int)+1)≤140737488355328)&&decide (((3+1:Nat):Int)*i64.wrap (((lb:Nat):Int)+1)≤140737488355328))) then bif H4 ob lb oa la (i64.wrap (((lb:Nat):Int)+1)).toNat 0 (((lb:Nat):Int)) 0 ys xs (List.replicate ((i64.wrap (((lb:Nat):Int)+1)).toNat*1) 0) then bif decide (0≤((lb:Nat):Int))&&decide (((lb:Nat):Int)<(((i64.wrap (((lb:Nat):Int)+1)).toNat:Nat):Int)) then bif (0+(((lb:Nat):Int)).toNat*1).blt (ap lb (sm ys ob lb xs oa la lb) (i64.wrap (((lb:Nat):Int)+1)).toNat).length then bif trim.ok 0 (i64.wrap (((lb:Nat):Int)+1)).toNat (i64.wrap (((lb:Nat):Int)+1)).toNat ((ap lb (sm ys ob lb xs oa la lb) (i64.wrap (((lb:Nat):Int)+1)).toNat).set (0+(((lb:Nat):Int)).toNat*1) (sm ys ob lb xs oa la lb/pw lb)) then none else none else none else none else none else none else bif decide (0≤i64.wrap (((la:Nat):Int)+1))&&(decide (i64.wrap (((la:Nat):Int)+1)≤i64.wrap (((la:Nat):Int)+1))&&(decide (i64.wrap (((la:Nat):Int)+1)≤140737488355328)&&decide (((3+1:Nat):Int)*i64.wrap (((la:Nat):Int)+1)≤140737488355328))) then bif H4 oa la ob lb (i64.wrap (((la:Nat):Int)+1)).toNat 0 (((la:Nat):Int)) 0 xs ys (List.replicate ((i64.wrap (((la:Nat):Int)+1)).toNat*1) 0) then bif decide (0≤((la:Nat):Int))&&decide (((la:Nat):Int)<(((i64.wrap (((la:Nat):Int)+1)).toNat:Nat):Int)) then bif (0+(((la:Nat):Int)).toNat*1).blt (ap la (sm xs oa la ys ob lb la) (i64.wrap (((la:Nat):Int)+1)).toNat).length then bif trim.ok 0 (i64.wrap (((la:Nat):Int)+1)).toNat (i64.wrap (((la:Nat):Int)+1)).toNat ((ap la (sm xs oa la ys ob lb la) (i64.wrap (((la:Nat):Int)+1)).toNat).set (0+(((la:Nat):Int)).toNat*1) (sm xs oa la ys ob lb la/pw la)) then some ((Value.slice (some {block:=146,off:=0}) (tl (seg ((ap la (sm xs oa la ys ob lb la) (i64.wrap (((la:Nat):Int)+1)).toNat).set (0+(((la:Nat):Int)).toNat*1) (sm xs oa la ys ob lb la/pw la)) 0 (i64.wrap (((la:Nat):Int)+1)).toNat)) (i64.wrap (((la:Nat):Int)+1)).toNat,[Blk.is u32 xs 64,Blk.is u32 ys 64,Blk.is u32 ((ap la (sm xs oa la ys ob lb la) (i64.wrap (((la:Nat):Int)+1)).toNat).set (0+(((la:Nat):Int)).toNat*1) (sm xs oa la ys ob lb la/pw la)) 64])) else none else none else none else none else none:=by kernel_rfl
def badd0.run0:=fun oa la ca ob lb cb xs ys h0 h1 h2 h3 h4 h5=>(((((((badd0.run oa la ca ob lb cb xs ys).cf h0).ct h1).ct h2).ct h3).ct h4).ct h5)
theorem badd1.run (oa la ca ob lb cb:Nat) (xs ys:List Int):xfnN Tryz.prog ⟨[(205,E2.sp)],[(207,Tryz.f207)],[]⟩ [(0,addL)] 10 Tryz.f189 [.slice (some ⟨0,oa,none⟩) la ca,.slice (some ⟨1,ob,none⟩) lb cb] [.is .u32 xs 64,.is .u32 ys 64] [210]=
 bif decide (((la:Nat):Int)<((lb:Nat):Int)) then bif decide (0≤i64.wrap (((lb:Nat):Int)+1))&&(decide (i64.wrap (((lb:Nat):Int)+1)≤i64.wrap (((lb:Nat):Int)+1))&&(decide (i64.wrap (((lb:Nat):Int)+1)≤140737488355328)&&decide (((3+1:Nat):Int)*i64.wrap (((lb:Nat):Int)+1)≤140737488355328))) then bif H4 ob lb oa la (i64.wrap (((lb:Nat):Int)+1)).toNat 0 (((lb:Nat):Int)) 0 ys xs (List.replicate ((i64.wrap (((lb:Nat):Int)+1)).toNat*1) 0) then bif decide (0≤((lb:Nat):Int))&&decide (((lb:Nat):Int)<(((i64.wrap (((lb:Nat):Int)+1)).toNat:Nat):Int)) then bif (0+(((lb:Nat):Int)).toNat*1).blt (ap lb (sm ys ob lb xs oa la lb) (i64.wrap (((lb:Nat):Int)+1)).toNat).length then bif trim.ok 0 (i64.wrap (((lb:Nat):Int)+1)).toNat (i64.wrap (((lb:Nat):Int)+1)).toNat ((ap lb (sm ys ob lb xs oa la lb) (i64.wrap (((lb:Nat):Int)+1)).toNat).set (0+(((lb:Nat):Int)).toNat*1) (sm ys ob lb xs oa la lb/pw lb)) then some ((Value.slice (some {block:=210,off:=0}) (tl (seg ((ap lb (sm ys ob lb xs oa la lb) (i64.wrap (((lb:Nat):Int)+1)).toNat).set (0+(((lb:Nat):Int)).toNat*1) (sm ys ob lb xs oa la lb/pw lb)) 0 (i64.wrap (((lb:Nat):Int)+1)).toNat)) (i64.wrap (((lb:Nat):Int)+1)).toNat,[Blk.is u32 xs 64,Blk.is u32 ys 64,Blk.is u32 ((ap lb (sm ys ob lb xs oa la lb) (i64.wrap (((lb:Nat):Int)+1)).toNat).set (0+(((lb:Nat):Int)).toNat*1) (sm ys ob lb xs oa la lb/pw lb)) 64])) else none else none else none else none else none else bif decide (0≤i64.wrap (((la:Nat):Int)+1))&&(decide (i64.wrap (((la:Nat):Int)+1)≤i64.wrap (((la:Nat):Int)+1))&&(decide (i64.wrap (((la:Nat):Int)+1)≤140737488355328)&&decide (((3+1:Nat):Int)*i64.wrap (((la:Nat):Int)+1)≤140737488355328))) then bif H4 oa la ob lb (i64.wrap (((la:Nat):Int)+1)).toNat 0 (((la:Nat):Int)) 0 xs ys (List.replicate ((i64.wrap (((la:Nat):Int)+1)).toNat*1) 0) then bif decide (0≤((la:Nat):Int))&&decide (((la:Nat):Int)<(((i64.wrap (((la:Nat):Int)+1)).toNat:Nat):Int)) then bif (0+(((la:Nat):Int)).toNat*1).blt (ap la (sm xs oa la ys ob lb la) (i64.wrap (((la:Nat):Int)+1)).toNat).length then bif trim.ok 0 (i64.wrap (((la:Nat):Int)+1)).toNat (i64.wrap (((la:Nat):Int)+1)).toNat ((ap la (sm xs oa la ys ob lb la) (i64.wrap (((la:Nat):Int)+1)).toNat).set (0+(((la:Nat):Int)).toNat*1) (sm xs oa la ys ob lb la/pw la)) then none else none else none else none else none else none:=by kernel_rfl
def badd1.run0:=fun oa la ca ob lb cb xs ys h0 h1 h2 h3 h4 h5=>(((((((badd1.run oa la ca ob lb cb xs ys).ct h0).ct h1).ct h2).ct h3).ct h4).ct h5)
theorem bless.run (oa la ca ob lb cb:Nat) (xs ys:List Int):xfnN Tryz.prog ⟨[(205,E2.sp)],[(208,Tryz.f208)],[]⟩ [(0,less.t)] 10 Tryz.f191 [.slice (some ⟨0,oa,none⟩) la ca,.slice (some ⟨1,ob,none⟩) lb cb] [.is .u32 xs 64,.is .u32 ys 64] [50]=
 bif decide (0≤((la:Nat):Int))&&(decide (((la:Nat):Int)≤((la:Nat):Int))&&(decide (((la:Nat):Int)≤140737488355328)&&decide (((3+1:Nat):Int)*((la:Nat):Int)≤140737488355328))) then bif H4 oa la ob lb (((la:Nat):Int)).toNat 0 (((la:Nat):Int)) 0 xs ys (List.replicate ((((la:Nat):Int)).toNat*1) 0) then bif trim.ok 0 (((la:Nat):Int)).toNat (((la:Nat):Int)).toNat (ap la (df xs oa la ys ob lb la) (((la:Nat):Int)).toNat) then some ((Value.slice (some {block:=50,off:=0}) (tl (seg (ap la (df xs oa la ys ob lb la) (((la:Nat):Int)).toNat) 0 (((la:Nat):Int)).toNat)) (((la:Nat):Int)).toNat,[Blk.is u32 xs 64,Blk.is u32 ys 64,Blk.is u32 (ap la (df xs oa la ys ob lb la) (((la:Nat):Int)).toNat) 64])) else none else none else none:=by kernel_rfl
def bless.run0:=fun oa la ca ob lb cb xs ys h0 h1 h2=>((((bless.run oa la ca ob lb cb xs ys).ct h0).ct h1).ct h2)
def add.sp:HSpec
 |[.slice (some ⟨0,oa,none⟩) la ca,.slice (some ⟨1,ob,none⟩) lb cb],[.is .u32 xs 64,.is .u32 ys 64]=>some (Di oa la xs&&Di ob lb ys,.slice (some ⟨2,0,none⟩) (tl (dg (max la lb+1) (nv (seg xs oa la)+nv (seg ys ob lb)))) (max la lb+1),[.is .u32 xs 64,.is .u32 ys 64,.is .u32 (dg (max la lb+1) (nv (seg xs oa la)+nv (seg ys ob lb))) 64])
 |_,_=>none
def less.sp:HSpec
 |[.slice (some ⟨0,oa,none⟩) la ca,.slice (some ⟨1,ob,none⟩) lb cb],[.is .u32 xs 64,.is .u32 ys 64]=>some (Di oa la xs&&(Di ob lb ys&&decide (nv (seg ys ob lb)≤nv (seg xs oa la))),.slice (some ⟨2,0,none⟩) (tl (dg la (nv (seg xs oa la)-nv (seg ys ob lb)))) la,[.is .u32 xs 64,.is .u32 ys 64,.is .u32 (dg la (nv (seg xs oa la)-nv (seg ys ob lb))) 64])
 |_,_=>none
theorem ap_last {k:Nat} {v:Int} (h:0≤v/pw k) (h':v/pw k<4294967296):(ap k v (k+1)).set k (v/pw k)=dg (k+1) v:=by
 have:=Gr (k:=k) (n:=k+1) (by omega) v 0
 rw [Int.add_zero,Int.mul_zero,Int.add_zero,Mp,Int.emod_eq_of_lt h h'] at this
 exact this
theorem PV {xs ys:List Int} (hx:dig xs) (hy:dig ys) {oa la ob lb:Nat} (h:oa+la≤xs.length) (h':ob+lb≤ys.length) (hl:lb≤la):(ap la (sm xs oa la ys ob lb la) (la+1)).set la (sm xs oa la ys ob lb la/pw la)=dg (la+1) (nv (seg xs oa la)+nv (seg ys ob lb)):=by
 have:=Ki hx hy h h' la
 rw [ap_last this.1 (by omega)]
 unfold sm
 rw [KH _ _ _ _ (Nat.le_refl _),KH _ _ _ _ hl]
theorem LQ {oa la ob lb:Nat} {xs ys:List Int} {n:Nat} (hn:la≤n) (h:Di oa la xs=true) (h':Di ob lb ys=true):H4 oa la ob lb n 0 (la:Int) 0 xs ys (List.replicate n 0)=true:=by
 simp only [H4,h,h',decide_true,Bool.and_true,Bool.true_and,Nat.ble_eq]; exact hn
theorem L3 {l:Nat} (h:l≤4294967297):(decide (0≤(l:Int))&&(decide ((l:Int)≤(l:Int))&&(decide ((l:Int)≤140737488355328)&&decide (((3+1:Nat):Int)*(l:Int)≤140737488355328))))=true:=by
 simp only [zB,zD]; omega
theorem G2 {l:Nat} {xs:List Int} (h:xs.length=l) (hl:l≤4294967297):trim.ok 0 l l xs=true:=by
 simp only [trim.ok,zB,Nat.ble_eq]; omega
theorem add.ok:SOK Tryz.prog 189 add.sp:=by
 refine Fs (E:=⟨[(205,E2.sp)],[(207,Tryz.f207)],[]⟩) (L:=[(0,addL)]) ⟨Aa E2.ok Ac,Bu ⟨Tryz.func207,by decide,rfl⟩ Aq,Aj,Ap⟩ 10 Tryz.func189 (by decide) rfl (F2 rfl rfl (Qj add0.lok add1.lok)) fun vs bl v bl' h=> ?_
 unfold add.sp at h
 split at h
 ·rename_i oa la ca ob lb cb xs ys
  simp only [zS,zP,zB] at h
  obtain ⟨⟨hA,hB⟩,rfl,rfl⟩:=h
  obtain ⟨h1,h2,h3⟩:=Dy.1 hA
  obtain ⟨h4,h5,h6⟩:=Dy.1 hB
  by_cases hl:la<lb
  ·have e1:i64.wrap (((lb:Nat):Int)+1)=((lb+1:Nat):Int):=by rw [w64 (by omega) (by omega)]; omega
   have hmx:max la lb=lb:=by omega
   have hr:=badd1.run0 oa la ca ob lb cb xs ys (dtrue (by omega)) (by rw [e1]; exact L3 (by omega)) (by rw [e1,Int.toNat_natCast,Nat.mul_one]; exact LQ (by omega) hB hA) (by rw [e1,Int.toNat_natCast]; exact dtrue2 (by omega) (by omega)) (by rw [e1,Int.toNat_natCast,Fc _ (by omega),Int.toNat_natCast]; exact EM (by omega)) (by rw [e1,Int.toNat_natCast]; exact G2 (by rw [List.length_set,Fc _ (by omega)]) (by omega))
   have hf:=PV h6 h3 h4 h1 (show la≤lb by omega)
   refine ⟨[210],hr.trans ?_,by simp [okV,Nat.blt],rfl,Bg rfl,List.nodup_cons.2 ⟨by simp,List.nodup_nil⟩,by simp⟩
   have e2:0+(((lb:Nat):Int)).toNat*1=lb:=by simp
   rw [e1,e2,Int.toNat_natCast,hf,hmx,Hd,Int.add_comm]
   rfl
  ·have e1:i64.wrap (((la:Nat):Int)+1)=((la+1:Nat):Int):=by rw [w64 (by omega) (by omega)]; omega
   have hmx:max la lb=la:=by omega
   have hr:=badd0.run0 oa la ca ob lb cb xs ys (dfalse (by omega)) (by rw [e1]; exact L3 (by omega)) (by rw [e1,Int.toNat_natCast,Nat.mul_one]; exact LQ (by omega) hA hB) (by rw [e1,Int.toNat_natCast]; exact dtrue2 (by omega) (by omega)) (by rw [e1,Int.toNat_natCast,Fc _ (by omega),Int.toNat_natCast]; exact EM (by omega)) (by rw [e1,Int.toNat_natCast]; exact G2 (by rw [List.length_set,Fc _ (by omega)]) (by omega))
   have hf:=PV h3 h6 h1 h4 (show lb≤la by omega)
   refine ⟨[146],hr.trans ?_,by simp [okV,Nat.blt],rfl,Bg rfl,List.nodup_cons.2 ⟨by simp,List.nodup_nil⟩,by simp⟩
   have e2:0+(((la:Nat):Int)).toNat*1=la:=by simp
   rw [e1,e2,Int.toNat_natCast,hf,hmx,Hd]
   rfl
 ·cases h
theorem Nh.ok:SOK Tryz.prog 191 less.sp:=by
  refine Fs (E:=⟨[(205,E2.sp)],[(208,Tryz.f208)],[]⟩) (L:=[(0,less.t)]) ⟨Aa E2.ok Ac,Bu ⟨Tryz.func208,by decide,rfl⟩ Aq,Aj,Ap⟩ 10 Tryz.func191 (by decide) rfl (F2 rfl rfl less.lok) fun vs bl v bl' h=> ?_
  unfold less.sp at h
  split at h
  · rename_i oa la ca ob lb cb xs ys
    simp only [zS,zP,zB,zD] at h
    obtain ⟨⟨hA,hB,hle⟩,rfl,rfl⟩:=h
    obtain ⟨h1,h2,h3⟩:=Dy.1 hA
    obtain ⟨h4,h5,h6⟩:=Dy.1 hB
    have hr:=bless.run0 oa la ca ob lb cb xs ys (L3 (by omega)) (by rw [Int.toNat_natCast,Nat.mul_one]; exact LQ (Nat.le_refl _) hA hB) (by rw [Int.toNat_natCast]; exact G2 (Fc _ (Nat.le_refl _)) (by omega))
    refine ⟨[50],hr.trans ?_,by simp [okV,Nat.blt],rfl,Bg rfl,List.nodup_cons.2 ⟨by simp,List.nodup_nil⟩,by simp⟩
    have hdf:dg la (df xs oa la ys ob lb la)=dg la (nv (seg xs oa la)-nv (seg ys ob lb)):=by
      unfold df
      rw [KH _ _ _ _ (Nat.le_refl _)]
      by_cases hl:lb≤la
      · rw [KH _ _ _ _ hl]
      ·
        have hs:sg ys ob lb la=nv (seg ys ob la):=by unfold sg; rw [Nat.min_eq_left (by omega)]
        obtain ⟨d,rfl⟩:=Nat.exists_eq_add_of_le (show la≤lb by omega)
        have hsp:seg ys ob (la+d)=seg ys ob la++seg ys (ob+la) d:=by
          unfold seg
          rw [List.take_add,List.drop_drop]
        rw [hs,hsp,Jd,EL (by omega),show nv (seg xs oa la)-(nv (seg ys ob la)+pw la*nv (seg ys (ob+la) d))=nv (seg xs oa la)-nv (seg ys ob la)+pw la* -nv (seg ys (ob+la) d) by rw [Int.mul_neg]; omega,Im]
    rw [Int.toNat_natCast,Mp,hdf,Hd]
    rfl
  · cases h
theorem JX.run (na:Bool) (sa:ByteArray):xfn Tryz.prog ⟨[],[],[]⟩ [] 10 Tryz.f157 [.agg ⟨[.bool na,.string sa]⟩] []=
 bif sa.toList==(⟨#[]⟩:ByteArray).toList then some ((Value.bool !na,[])) else bif decide (0≤0)&&decide (0<((sa.size:Nat):Int)) then some ((Value.bool ((((sa.data.toList.getD (Int.toNat 0) 0).toNat:Nat):Int) !=0),[])) else none:=by kernel_rfl
def JX.run0:=fun na sa h0=>((JX.run na sa).ct h0)
def JX.run1:=fun na sa h0 h1=>(((JX.run na sa).cf h0).ct h1)
theorem rword.run (n:Int):xfnN Tryz.prog ⟨[(205,E2.sp)],[],[]⟩ [] 10 Tryz.f186 [.int .u64 n] [] [96]=
 some ((Value.slice (some {block:=96,off:=0}) (tl (seg [u32.wrap n,u32.wrap (n.fdiv (2^min (Int.toNat 32) u64.bits))] 0 2)) 2,[Blk.is u32 [u32.wrap n,u32.wrap (n.fdiv (2^min (Int.toNat 32) u64.bits))] 64])):=by kernel_rfl
def rword.run0:=fun n=>(rword.run n)
def vldL (n:Bool):List UInt8→Bool
 |[]=> !n
 |b::_=> !(b.toNat==0)
def vld (n:Bool) (s:ByteArray):Bool:=vldL n s.data.toList
def vl (n:Bool) (s:ByteArray):Int:=bif n then -bv s.data.toList else bv s.data.toList
def iI (z:Int):Value:= .agg ⟨[.bool (decide (z<0)),.string (str (enc (z.natAbs:Int)))]⟩
theorem Nf {b:UInt8} {r:List UInt8} (h:(b.toNat==0)=false):p8 r.length≤bv (b::r):=by
 have hb:b.toNat≠0:=by simpa using h
 have hp:=Gh r.length
 rw [Mk]
 have h1:=EV r
 have h2:1*p8 r.length≤(b.toNat:Int)*p8 r.length:=Int.mul_le_mul_of_nonneg_right (by omega) (by omega)
 omega
theorem IU {n:Bool} {s:ByteArray} (h:vld n s=true):tz s.data.toList=s.data.toList:=by
 unfold vld at h
 cases hs:s.data.toList with
 |nil=>rfl
 | cons b r=>
  rw [hs] at h
  simp only [vldL,Bool.not_eq_true'] at h
  simp only [tz,h,cond_false]
theorem HY (z:Int):vld (decide (z<0)) (str (enc (z.natAbs:Int)))=true:=by
 show vldL (decide (z<0)) (enc (z.natAbs:Int))=true
 cases he:enc (z.natAbs:Int) with
 | nil=>
  have:=(PI (by omega)).1 he
  simp only [vldL,Bool.not_eq_true']
  exact dfalse (by omega)
 | cons b r=>
  simp only [vldL]
  have:=tz_enc (z.natAbs:Int)
  rw [he] at this
  simp only [tz] at this
  cases hb:b.toNat==0 with
  |false=>rfl
  | true=>
   rw [hb,cond_true] at this
   have h2:=JQ r
   rw [this] at h2
   simp only [List.length_cons] at h2
   omega
theorem Js (z:Int):vl (decide (z<0)) (str (enc (z.natAbs:Int)))=z:=by
 show (bif decide (z<0) then -bv (enc (z.natAbs:Int)) else bv (enc (z.natAbs:Int)))=z
 rw [OL (by omega)]
 by_cases h:z<0
 ·rw [dtrue h,cond_true]; omega
 ·rw [dfalse h,cond_false]; omega
theorem iI_vl {n:Bool} {s:ByteArray} (h:vld n s=true):iI (vl n s)= .agg ⟨[.bool n,.string s]⟩:=by
 have ht:=IU h
 have hb:=EV s.data.toList
 have e1:((vl n s).natAbs:Int)=bv s.data.toList:=by unfold vl; cases n<;>simp only [cond_true,cond_false]<;>omega
 have e2:decide (vl n s<0)=n:=by
  unfold vl
  cases n with
  |false=>exact dfalse (by simp only [cond_false]; omega)
  | true=>
   refine dtrue ?_
   simp only [cond_true]
   unfold vld at h
   cases hs:s.data.toList with
   |nil=>rw [hs] at h; simp [vldL] at h
   | cons b r=>
    rw [hs] at h
    simp only [vldL,Bool.not_eq_true'] at h
    have:=Nf (r:=r) h
    have:=Gh r.length
    omega
 unfold iI
 rw [e1,e2,Hn ht]
 rfl
def Valid.sp:HSpec
 |[.agg ⟨[.bool n,.string s]⟩],[]=>some (true,.bool (vld n s),[])
 |_,_=>none
theorem Valid.ok : SOK Tryz.prog 157 Valid.sp:=by
  refine Dl (E:=⟨[],[],[]⟩) (L:=[]) ⟨Ac,Aq,Aj,Ap⟩ 10 Tryz.func157 (by decide) rfl Bf fun vs bl v bl' h=> ?_
  unfold Valid.sp at h
  split at h
  · rename_i n s
    simp only [zS,zP,true_and] at h
    obtain ⟨rfl,rfl⟩:=h
    refine ⟨?_,by simp [okV],clo_spec 8 _ rfl,Bg rfl⟩
    obtain ⟨⟨l⟩⟩:=s
    have hs:((⟨⟨l⟩⟩:ByteArray).toList==(⟨#[]⟩:ByteArray).toList)=l.isEmpty:=G6 l
    cases l with
    |nil=>exact JX.run0 n _ hs
    | cons b r=>
      refine (JX.run1 n _ hs (dtrue2 (by omega) (by show (0:Int)<(((b::r).length:Nat):Int); rw [List.length_cons]; omega))).trans ?_
      have:((((((b::r:List UInt8).getD (Int.toNat 0) 0).toNat:Nat):Int) !=0))= !(b.toNat==0):=by
        show ((((b.toNat:Nat):Int)) !=0)=_
        cases hb:b.toNat==0 with
        | true => have:b.toNat=0:=by simpa using hb
                  rw [this]; rfl
        | false => have:b.toNat≠0:=by simpa using hb
                   simp only [Bool.not_false]; exact E8 (by omega)
      show some (Value.bool _,_)=some (Value.bool _,_)
      rw [this]
      rfl
  · cases h
def word.sp:HSpec
 |[.int .u64 n],[]=>some (decide (0≤n)&&decide (n<18446744073709551616),.slice (some ⟨0,0,none⟩) (tl (dg 2 n)) 2,[.is .u32 (dg 2 n) 64])
 |_,_=>none
theorem word.ok:SOK Tryz.prog 186 word.sp:=by
 refine Fs (E:=⟨[(205,E2.sp)],[],[]⟩) (L:=[]) ⟨Aa E2.ok Ac,Aq,Aj,Ap⟩ 10 Tryz.func186 (by decide) rfl Bf fun vs bl v bl' h=> ?_
 unfold word.sp at h
 split at h
 ·rename_i n
  simp only [zS,zP,zB,zD] at h
  obtain ⟨⟨h0,h1⟩,rfl,rfl⟩:=h
  refine ⟨[96],(rword.run0 n).trans ?_,by simp [okV,Nat.blt],rfl,Bg rfl,List.nodup_cons.2 ⟨by simp,List.nodup_nil⟩,by simp⟩
  have e:[u32.wrap n,u32.wrap (n.fdiv (2^min (Int.toNat 32) u64.bits))]=dg 2 n:=by
   rw [Int.fdiv_eq_ediv_of_nonneg _ (by decide),show ((2:Int)^min (Int.toNat 32) u64.bits)=4294967296 from rfl,wu32,wu32]
   rfl
  rw [e,Hd]
  rfl
 ·cases h
theorem rOf.run (n:Int):xfn Tryz.prog ⟨[(186,word.sp),(187,with.sp)],[],[]⟩ [] 10 Tryz.f160 [.int .i64 n] []=
 bif decide (n<0) then bif decide (0≤u64.wrap (0-u64.wrap n))&&decide (u64.wrap (0-u64.wrap n)<18446744073709551616) then bif Di 0 (tl (dg 2 (u64.wrap (0-u64.wrap n)))) (dg 2 (u64.wrap (0-u64.wrap n))) then some ((Value.agg ⟨[Value.bool (true&& !nv (seg (dg 2 (u64.wrap (0-u64.wrap n))) 0 (tl (dg 2 (u64.wrap (0-u64.wrap n)))))==0),Value.string (str (enc (nv (seg (dg 2 (u64.wrap (0-u64.wrap n))) 0 (tl (dg 2 (u64.wrap (0-u64.wrap n))))))))]⟩,[])) else none else none else bif decide (0≤u64.wrap n)&&decide (u64.wrap n<18446744073709551616) then bif Di 0 (tl (dg 2 (u64.wrap n))) (dg 2 (u64.wrap n)) then some ((Value.agg ⟨[Value.bool (false&& !nv (seg (dg 2 (u64.wrap n)) 0 (tl (dg 2 (u64.wrap n))))==0),Value.string (str (enc (nv (seg (dg 2 (u64.wrap n)) 0 (tl (dg 2 (u64.wrap n)))))))]⟩,[])) else none else none:=by kernel_rfl
def rOf.run0:=fun n h0 h1 h2=>((((rOf.run n).ct h0).ct h1).ct h2)
def rOf.run1:=fun n h0 h1 h2=>((((rOf.run n).cf h0).ct h1).ct h2)
theorem rNeg.run (na:Bool) (sa:ByteArray):xfn Tryz.prog ⟨[(157,Valid.sp)],[],[]⟩ [] 10 Tryz.f193 [.agg ⟨[.bool na,.string sa]⟩] []=
 bif !vld na sa then some ((Value.agg ⟨[Value.bool false,Value.string (⟨#[]⟩:ByteArray)]⟩,[])) else bif !na then some ((Value.agg ⟨[Value.bool !sa.toList==(⟨#[]⟩:ByteArray).toList,Value.string sa]⟩,[])) else some ((Value.agg ⟨[Value.bool false,Value.string sa]⟩,[])):=by kernel_rfl
def rNeg.run0:=fun na sa h0=>((rNeg.run na sa).ct h0)
def rNeg.run1:=fun na sa h0 h1=>(((rNeg.run na sa).cf h0).ct h1)
def rNeg.run2:=fun na sa h0 h1=>(((rNeg.run na sa).cf h0).cf h1)
theorem HT.run (na:Bool) (sa:ByteArray):xfn Tryz.prog ⟨[(157,Valid.sp)],[],[]⟩ [] 10 Tryz.f158 [.agg ⟨[.bool na,.string sa]⟩] []=
 bif !vld na sa then some ((Value.int i64 0,[])) else bif sa.toList==(⟨#[]⟩:ByteArray).toList then some ((Value.int i64 0,[])) else bif na then some ((Value.int i64 (-1),[])) else some ((Value.int i64 1,[])):=by kernel_rfl
def HT.run0:=fun na sa h0=>((HT.run na sa).ct h0)
def HT.run1:=fun na sa h0 h1=>(((HT.run na sa).cf h0).ct h1)
def HT.run2:=fun na sa h0 h1 h2=>((((HT.run na sa).cf h0).cf h1).ct h2)
def HT.run3:=fun na sa h0 h1 h2=>((((HT.run na sa).cf h0).cf h1).cf h2)
theorem rAdd.run (na:Bool) (sa:ByteArray) (nb:Bool) (sb:ByteArray):xfn Tryz.prog ⟨[(157,Valid.sp),(188,of.sp),(187,with.sp),(190,compare.sp),(189,add.sp),(191,less.sp)],[],[]⟩ [] 10 Tryz.f162 [.agg ⟨[.bool na,.string sa]⟩,.agg ⟨[.bool nb,.string sb]⟩] []=
 let c0:=seg (dg (nd sa) (bv sa.data.toList)) 0 (tl (dg (nd sa) (bv sa.data.toList)))
 let c1:=seg (dg (nd sb) (bv sb.data.toList)) 0 (tl (dg (nd sb) (bv sb.data.toList)))
 let c2:=dg (max (tl (dg (nd sa) (bv sa.data.toList))) (tl (dg (nd sb) (bv sb.data.toList)))+1) (nv c0+nv c1)
 let c3:=dg (tl (dg (nd sa) (bv sa.data.toList))) (nv c0-nv c1)
 let c4:=dg (tl (dg (nd sb) (bv sb.data.toList))) (nv c1-nv c0)
 bif !vld na sa then some ((Value.agg ⟨[Value.bool false,Value.string (⟨#[]⟩:ByteArray)]⟩,[])) else bif !vld nb sb then some ((Value.agg ⟨[Value.bool false,Value.string (⟨#[]⟩:ByteArray)]⟩,[])) else bif sa.size.ble 8589934592 then bif sb.size.ble 8589934592 then bif na==nb then bif Di 0 (tl (dg (nd sa) (bv sa.data.toList))) (dg (nd sa) (bv sa.data.toList))&&Di 0 (tl (dg (nd sb) (bv sb.data.toList))) (dg (nd sb) (bv sb.data.toList)) then bif Di 0 (tl c2) c2 then some ((Value.agg ⟨[Value.bool (na&& !nv (seg c2 0 (tl c2))==0),Value.string (str (enc (nv (seg c2 0 (tl c2)))))]⟩,[])) else none else none else bif Di 0 (tl (dg (nd sa) (bv sa.data.toList))) (dg (nd sa) (bv sa.data.toList))&&Di 0 (tl (dg (nd sb) (bv sb.data.toList))) (dg (nd sb) (bv sb.data.toList)) then bif decide (cmpI (tl (dg (nd sa) (bv sa.data.toList))) (tl (dg (nd sb) (bv sb.data.toList))) (nv c0) (nv c1)≥0) then bif Di 0 (tl (dg (nd sa) (bv sa.data.toList))) (dg (nd sa) (bv sa.data.toList))&&(Di 0 (tl (dg (nd sb) (bv sb.data.toList))) (dg (nd sb) (bv sb.data.toList))&&decide (nv c1≤nv c0)) then bif Di 0 (tl c3) c3 then some ((Value.agg ⟨[Value.bool (na&& !nv (seg c3 0 (tl c3))==0),Value.string (str (enc (nv (seg c3 0 (tl c3)))))]⟩,[])) else none else none else bif Di 0 (tl (dg (nd sb) (bv sb.data.toList))) (dg (nd sb) (bv sb.data.toList))&&(Di 0 (tl (dg (nd sa) (bv sa.data.toList))) (dg (nd sa) (bv sa.data.toList))&&decide (nv c0≤nv c1)) then bif Di 0 (tl c4) c4 then some ((Value.agg ⟨[Value.bool (nb&& !nv (seg c4 0 (tl c4))==0),Value.string (str (enc (nv (seg c4 0 (tl c4)))))]⟩,[])) else none else none else none else none else none:=by kernel_rfl
def rAdd.run0:=fun na sa nb sb h0=>((rAdd.run na sa nb sb).ct h0)
def rAdd.run1:=fun na sa nb sb h0 h1=>(((rAdd.run na sa nb sb).cf h0).ct h1)
def rAdd.run2:=fun na sa nb sb h0 h1 h2 h3 h4 h5 h6=>((((((((rAdd.run na sa nb sb).cf h0).cf h1).ct h2).ct h3).ct h4).ct h5).ct h6)
def rAdd.run3:=fun na sa nb sb h0 h1 h2 h3 h4 h5 h6 h7 h8=>((((((((((rAdd.run na sa nb sb).cf h0).cf h1).ct h2).ct h3).cf h4).ct h5).ct h6).ct h7).ct h8)
def rAdd.run4:=fun na sa nb sb h0 h1 h2 h3 h4 h5 h6 h7 h8=>((((((((((rAdd.run na sa nb sb).cf h0).cf h1).ct h2).ct h3).cf h4).ct h5).cf h6).ct h7).ct h8)
theorem nvc {n:Nat} {v:Int} (h:0≤v) (h':v<pw n):nv (seg (dg n v) 0 (tl (dg n v)))=v:=by
 rw [Lu (F4 n v) n,G0 n v h h']
theorem okc {n:Nat} (v:Int) (h:n≤4294967296):Di 0 (tl (dg n v)) (dg n v)=true:=by
 have:=Fz (dg n v)
 rw [Cw] at this
 exact Dy.2 ⟨by rw [Cw]; omega,by omega,F4 n v⟩
theorem Gd {n:Nat} {v:Int} (h:0≤v) (h':v<pw n):v<pw (tl (dg n v)):=by
 have h1:=nvc h h'
 have h2:=FF (EB (F4 n v) 0 (tl (dg n v)))
 have h3:=Fz (dg n v)
 rw [h1,EL (by omega)] at h2
 exact h2
theorem QF {n k:Nat} {v:Int} (h:0≤v) (h':v<pw n) (hk:tl (dg n v)=k+1):pw k≤v:=by
 have:=Ob (F4 n v) hk
 rwa [G0 n v h h'] at this
theorem Fh {j k:Nat} (h:j≤k):pw j≤pw k:=by
 have:=Nat.pow_le_pow_right (show 0<4294967296 by decide) h
 simp only [pw]; omega
theorem Ms {n m:Nat} {a b:Int} (ha:0≤a) (ha':a<pw n) (hb:0≤b) (hb':b<pw m) (h:tl (dg n a)<tl (dg m b)):a<b:=by
 obtain ⟨k,hk⟩:∃k,tl (dg m b)=k+1:=⟨tl (dg m b)-1,by omega⟩
 have h1:=QF hb hb' hk
 have h2:=Gd ha ha'
 have h3:=Fh (show tl (dg n a)≤k by omega)
 omega
theorem II {n m:Nat} {a b:Int} (ha:0≤a) (ha':a<pw n) (hb:0≤b) (hb':b<pw m):cmpI (tl (dg n a)) (tl (dg m b)) a b≥0↔b≤a:=by
 unfold cmpI
 split
 ·split
  ·omega
  ·split<;>omega
 ·rename_i hne
  rcases Nat.lt_or_gt_of_ne hne with h|h
  ·have:=Ms ha ha' hb hb' h; omega
  ·have:=Ms hb hb' ha ha' h; omega
theorem GS (n:Bool) {v:Int} (h:0≤v):iv n v=iI (bif n then -v else v):=by
 unfold iv iI
 cases n with
 | false=>
  have:¬v<0:=by omega
  simp only [cond_false,Bool.false_and,dfalse this]
  rw [show (v.natAbs:Int)=v by omega]
 | true=>
  simp only [cond_true,Bool.true_and]
  rw [show ((-v).natAbs:Int)=v by omega]
  by_cases h0:v=0
  ·subst h0; rfl
  ·rw [E9 h0,dtrue (show -v<0 by omega)]; rfl
theorem FM (s:ByteArray):bv s.data.toList<pw (nd s):=by
 have h:=PR s.data.toList
 have h1:s.data.toList.length=s.size:=rfl
 rw [h1] at h
 rw [←KJ]
 exact Int.lt_of_lt_of_le h (I3 (by unfold nd; omega))
theorem F9:iI 0= .agg ⟨[.bool false,.string (⟨#[]⟩:ByteArray)]⟩:=rfl
def Of.sp:HSpec
 |[.int .i64 n],[]=>some (decide (-9223372036854775808≤n)&&decide (n≤9223372036854775807),iI n,[])
 |_,_=>none
def Neg.sp:HSpec
 |[.agg ⟨[.bool n,.string s]⟩],[]=>some (true,iI (bif vld n s then -vl n s else 0),[])
 |_,_=>none
def sgn (z:Int):Int:=if z<0 then -1 else if z=0 then 0 else 1
def Sign.sp:HSpec
 |[.agg ⟨[.bool n,.string s]⟩],[]=>some (true,.int .i64 (sgn (bif vld n s then vl n s else 0)),[])
 |_,_=>none
def szOk (s:ByteArray):Bool:=Nat.ble s.size 8589934592
def Add.sp:HSpec
 |[.agg ⟨[.bool na,.string sa]⟩,.agg ⟨[.bool nb,.string sb]⟩],[]=>some (szOk sa&&szOk sb,iI (bif vld na sa&&vld nb sb then vl na sa+vl nb sb else 0),[])
 |_,_=>none
theorem Dh {b:Bool} (h:b=true):(!b)=false:=by rw [h]; rfl
theorem Ee {b:Bool} (h:b=false):(!b)=true:=by rw [h]; rfl
theorem Add.ok:SOK Tryz.prog 162 Add.sp:=by
 refine Dl (E:=⟨[(157,Valid.sp),(188,of.sp),(187,with.sp),(190,compare.sp),(189,add.sp),(191,less.sp)],[],[]⟩) (L:=[]) ⟨Aa Valid.ok (Aa of.ok (Aa with.ok (Aa compare.ok (Aa add.ok (Aa Nh.ok Ac))))),Aq,Aj,Ap⟩ 10 Tryz.func162 (by decide) rfl Bf fun vs bl v bl' h=> ?_
 unfold Add.sp at h
 split at h
 ·rename_i na sa nb sb
  simp only [zS,zP,zB] at h
  obtain ⟨⟨h1,h2⟩,rfl,rfl⟩:=h
  refine ⟨?_,by simp [okV],clo_spec 8 _ rfl,Bg rfl⟩
  cases va:vld na sa with
  |false=>exact (rAdd.run0 na sa nb sb (Ee va)).trans (by simp only [Bool.false_and,cond_false]; rw [F9])
  |true=>
  cases vb:vld nb sb with
  |false=>exact (rAdd.run1 na sa nb sb (Dh va) (Ee vb)).trans (by simp only [Bool.and_false,cond_false]; rw [F9])
  |true=>
  have hsa:=zL h1
  have hsb:=zL h2
  have na_:nd sa≤2147483648:=by unfold nd; omega
  have nb_:nd sb≤2147483648:=by unfold nd; omega
  have a0:=EV sa.data.toList
  have b0:=EV sb.data.toList
  have a1:=FM sa
  have b1:=FM sb
  have oa:=okc (n:=nd sa) (bv sa.data.toList) (by omega)
  have ob:=okc (n:=nd sb) (bv sb.data.toList) (by omega)
  have ta:=Fz (dg (nd sa) (bv sa.data.toList))
  have tb:=Fz (dg (nd sb) (bv sb.data.toList))
  rw [Cw] at ta tb
  have oab:(Di 0 (tl (dg (nd sa) (bv sa.data.toList))) (dg (nd sa) (bv sa.data.toList))&&Di 0 (tl (dg (nd sb) (bv sb.data.toList))) (dg (nd sb) (bv sb.data.toList)))=true:=by rw [oa,ob]; rfl
  simp only [Bool.and_true,cond_true]
  cases hn:na==nb with
  | true=>
   have:na=nb:=by simpa using hn
   subst this
   refine (rAdd.run2 na sa na sb (Dh va) (Dh vb) h1 h2 hn oab (okc _ (by omega))).trans ?_
   have hlt:bv sa.data.toList+bv sb.data.toList<pw (max (tl (dg (nd sa) (bv sa.data.toList))) (tl (dg (nd sb) (bv sb.data.toList)))+1):=by
    have q1:=Gd a0 a1
    have q2:=Gd b0 b1
    have q3:=Fh (Nat.le_max_left (tl (dg (nd sa) (bv sa.data.toList))) (tl (dg (nd sb) (bv sb.data.toList))))
    have q4:=Fh (Nat.le_max_right (tl (dg (nd sa) (bv sa.data.toList))) (tl (dg (nd sb) (bv sb.data.toList))))
    rw [Eb]; omega
   show some (iv na _,_)=_
   rw [nvc a0 a1,nvc b0 b1,nvc (by omega) hlt,GS na (by omega)]
   unfold vl
   cases na<;>simp only [cond_true,cond_false]<;>congr 3<;>omega
  | false=>
   by_cases hc:bv sb.data.toList≤bv sa.data.toList
   ·have hcm:=(II a0 a1 b0 b1).2 hc
    refine (rAdd.run3 na sa nb sb (Dh va) (Dh vb) h1 h2 hn oab (by rw [nvc a0 a1,nvc b0 b1]; exact dtrue hcm) (by rw [oa,ob,nvc a0 a1,nvc b0 b1,dtrue hc]; rfl) (okc _ (by omega))).trans ?_
    have hlt:bv sa.data.toList-bv sb.data.toList<pw (tl (dg (nd sa) (bv sa.data.toList))):=by
     have q1:=Gd a0 a1
     omega
    show some (iv na _,_)=_
    rw [nvc a0 a1,nvc b0 b1,nvc (by omega) hlt,GS na (by omega)]
    unfold vl
    cases na<;>cases nb<;>simp at hn<;>simp only [cond_true,cond_false]<;>congr 3<;>omega
   ·have hcm:¬_:=fun q=>hc ((II a0 a1 b0 b1).1 q)
    refine (rAdd.run4 na sa nb sb (Dh va) (Dh vb) h1 h2 hn oab (by rw [nvc a0 a1,nvc b0 b1]; exact dfalse hcm) (by rw [oa,ob,nvc a0 a1,nvc b0 b1,dtrue (show bv sa.data.toList≤bv sb.data.toList by omega)]; rfl) (okc _ (by omega))).trans ?_
    have hlt:bv sb.data.toList-bv sa.data.toList<pw (tl (dg (nd sb) (bv sb.data.toList))):=by
     have q1:=Gd b0 b1
     omega
    show some (iv nb _,_)=_
    rw [nvc a0 a1,nvc b0 b1,nvc (by omega) hlt,GS nb (by omega)]
    unfold vl
    cases na<;>cases nb<;>simp at hn<;>simp only [cond_true,cond_false]<;>congr 3<;>omega
 ·cases h
theorem Of.ok:SOK Tryz.prog 160 Of.sp:=by
 refine Dl (E:=⟨[(186,word.sp),(187,with.sp)],[],[]⟩) (L:=[]) ⟨Aa word.ok (Aa with.ok Ac),Aq,Aj,Ap⟩ 10 Tryz.func160 (by decide) rfl Bf fun vs bl v bl' h=> ?_
 unfold Of.sp at h
 split at h
 ·rename_i n
  simp only [zS,zP,zB,zD] at h
  obtain ⟨⟨h1,h2⟩,rfl,rfl⟩:=h
  refine ⟨?_,by simp [okV],clo_spec 8 _ rfl,Bg rfl⟩
  have hp:pw 2=18446744073709551616:=by decide
  by_cases hn:n<0
  ·have e:u64.wrap (0-u64.wrap n)= -n:=by rw [wu64,wu64]; omega
   refine (rOf.run0 n (dtrue hn) (by rw [e]; exact dtrue2 (by omega) (by omega)) (okc _ (by decide))).trans ?_
   show some (iv true _,_)=_
   rw [e,nvc (by omega) (by rw [hp]; omega),GS true (by omega)]
   simp only [cond_true,Int.neg_neg]
  ·have e:u64.wrap n=n:=u64of (by omega) (by omega)
   refine (rOf.run1 n (dfalse hn) (by rw [e]; exact dtrue2 (by omega) (by omega)) (okc _ (by decide))).trans ?_
   show some (iv false _,_)=_
   rw [e,nvc (by omega) (by rw [hp]; omega),GS false (by omega)]
   rfl
 ·cases h
theorem Neg.ok:SOK Tryz.prog 193 Neg.sp:=by
 refine Dl (E:=⟨[(157,Valid.sp)],[],[]⟩) (L:=[]) ⟨Aa Valid.ok Ac,Aq,Aj,Ap⟩ 10 Tryz.func193 (by decide) rfl Bf fun vs bl v bl' h=> ?_
 unfold Neg.sp at h
 split at h
 ·rename_i n s
  simp only [zS,zP,true_and] at h
  obtain ⟨rfl,rfl⟩:=h
  refine ⟨?_,by simp [okV],clo_spec 8 _ rfl,Bg rfl⟩
  cases va:vld n s with
  |false=>exact (rNeg.run0 n s (Ee va)).trans (by simp only [cond_false]; rw [F9])
  | true=>
   have ht:=IU va
   have hb:=EV s.data.toList
   have hstr:str s.data.toList=s:=rfl
   have hnil:(s.toList==(⟨#[]⟩:ByteArray).toList)=(bv s.data.toList==0):=by
    have h1:=G6 s.data.toList
    have h2:=Fo hb
    rw [Hn ht] at h2
    rw [←h2]; exact h1
   have key:∀m:Bool,(.agg ⟨[.bool (m&& !(s.toList==(⟨#[]⟩:ByteArray).toList)),.string s]⟩:Value)=iI (bif m then -bv s.data.toList else bv s.data.toList):=fun m=>by
    rw [hnil,←GS m hb]
    unfold iv
    rw [Hn ht,hstr]
   cases n with
   | false=>
    refine (rNeg.run1 false s (Dh va) rfl).trans ?_
    have:=key true
    simp only [Bool.true_and,cond_true] at this
    simp only [cond_true,vl,cond_false,Bool.not_false]
    rw [←this]
   | true=>
    refine (rNeg.run2 true s (Dh va) rfl).trans ?_
    have:=key false
    simp only [Bool.false_and,cond_false] at this
    simp only [cond_true,vl,Int.neg_neg]
    rw [←this]
 ·cases h
theorem Sign.ok:SOK Tryz.prog 158 Sign.sp:=by
 refine Dl (E:=⟨[(157,Valid.sp)],[],[]⟩) (L:=[]) ⟨Aa Valid.ok Ac,Aq,Aj,Ap⟩ 10 Tryz.func158 (by decide) rfl Bf fun vs bl v bl' h=> ?_
 unfold Sign.sp at h
 split at h
 ·rename_i n s
  simp only [zS,zP,true_and] at h
  obtain ⟨rfl,rfl⟩:=h
  refine ⟨?_,by simp [okV],clo_spec 8 _ rfl,Bg rfl⟩
  cases va:vld n s with
  |false=>exact HT.run0 n s (Ee va)
  | true=>
   have ht:=IU va
   have hb:=EV s.data.toList
   have hnil:(s.toList==(⟨#[]⟩:ByteArray).toList)=(bv s.data.toList==0):=by
    have h1:=G6 s.data.toList
    have h2:=Fo hb
    rw [Hn ht] at h2
    rw [←h2]; exact h1
   simp only [cond_true]
   cases h0:bv s.data.toList==0 with
   | true=>
    have h0':bv s.data.toList=0:=by simpa using h0
    refine (HT.run1 n s (Dh va) (by rw [hnil]; exact h0)).trans ?_
    unfold vl
    rw [h0']
    cases n<;>rfl
   | false=>
    have h0':bv s.data.toList≠0:=by simpa using h0
    cases n with
    | true=>
     refine (HT.run2 true s (Dh va) (by rw [hnil]; exact h0) rfl).trans ?_
     have:sgn (vl true s)= -1:=by unfold sgn vl; simp only [cond_true]; rw [if_pos (by omega)]
     rw [this]
    | false=>
     refine (HT.run3 false s (Dh va) (by rw [hnil]; exact h0) rfl).trans ?_
     have:sgn (vl false s)=1:=by unfold sgn vl; simp only [cond_false]; rw [if_neg (by omega),if_neg h0']
     rw [this]
 ·cases h
section
variable {N:Nat→Prop} {xe:X} {Se:St} (o n m:Nat) (c i:Int) (xs:List Int) (ty:TypeId) (nx:Nat)
abbrev put.st:St:=⟨gbuild [(0,.slice (some ⟨0,o,none⟩) n m),(10,.int .u32 c),(11,.int .i64 i)] 0 63,[(0,.is .u32 xs ty)],nx⟩
abbrev put.lk:=RX.lk [0,10,11] [0]
theorem put.rnd:rd Tryz.prog ⟨[],[(207,Tryz.f207)],[]⟩ [] 5 (Ay Tryz.f209 0) (put.st o n m c i xs ty nx) 63 [0,10,11] [0]=
 bif c !=0 then bif decide (0≤i)&&decide (i<((n:Nat):Int)) then bif (o+i.toNat*1).blt xs.length then bif decide (0≤i)&&decide (i<((n:Nat):Int)) then bif (o+i.toNat*1).blt xs.length then put.lk .normal (put.st o n m (u32.wrap ((u64.wrap (u64.wrap (u64.wrap (xs.getD (o+i.toNat*1) 0)+u64.wrap 0)+u64.wrap c)).fdiv (2^min (Int.toNat 32) u64.bits))) (i64.wrap (i+1)) (xs.set (o+i.toNat*1) (u32.wrap (u64.wrap (u64.wrap (u64.wrap (xs.getD (o+i.toNat*1) 0)+u64.wrap 0)+u64.wrap c)))) ty nx) else none else none else none else none else some ((X.exit 0,[Value.slice (some {block:=0,off:=o}) n m,Value.int u32 c,Value.int i64 i],[some (Blk.is u32 xs ty)])):=by kernel_rfl
def put.step0:=fun h0 h1 h2 h3 h4 (ih:Lq Tryz.prog N (Ay Tryz.f209 0) _ xe Se)=>Lq.toK (f:=5) ⟨Ac,Bu ⟨Tryz.func207,by decide,rfl⟩ Aq,Aj,Ap⟩ Bs ((((((put.rnd o n m c i xs ty nx).ct h0).ct h1).ct h2).ct h3).ct h4) rfl rfl ih
def put.stop1:=fun h0=>Lq.stop (S2:=⟨gbuild [] 0 63,[(0,Blk.is u32 xs ty)],nx⟩) (N:=N) (f:=5) ⟨Ac,Bu ⟨Tryz.func207,by decide,rfl⟩ Aq,Aj,Ap⟩ Bs ((put.rnd o n m c i xs ty nx).cf h0) (fun q=>by cases q) (fun h=>q_of .nil (.cons ⟨rfl,(bname h (m:=0) rfl),rfl⟩ .nil))
end
theorem Qe:∀(xs:List Int) (i:Nat) (v:Int),i<xs.length→nv (xs.set i v)=nv xs+pw i*(v-xs.getD i 0)
 |[],i,v,h=>by simp at h
 |x::r,0,v,_=>by simp [nv,GZ]; omega
 | x::r,i+1,v,h=>by
  simp only [List.set_cons_succ,nv,List.getD_cons_succ,Eb]
  rw [Qe r i v (by simpa using h),Int.mul_add,Int.mul_assoc]
  omega
theorem Md {xs:List Int} (h:dig xs) (i:Nat) {v:Int} (h0:0≤v) (h1:v<4294967296):dig (xs.set i v):=fun x hx=>by
 rcases List.mem_or_eq_of_mem_set hx with hx|rfl
 ·exact h x hx
 ·exact ⟨h0,h1⟩
theorem L2 (xs:List Int) (i:Nat) (v:Int) (h:i<xs.length):nv (xs.set i ((xs.getD i 0+v)%4294967296))+pw (i+1)*((xs.getD i 0+v)/4294967296)=nv xs+pw i*v:=by
 rw [Qe xs i _ h,Eb,Int.mul_comm 4294967296,Int.mul_assoc,Int.add_assoc,←Int.mul_add]
 congr 2
 omega
def put.ok (o n:Nat) (c i:Int) (xs:List Int):Bool:=Nat.beq o 0&&(Nat.beq n xs.length&&(Nat.ble n 4294967299&&(digB xs&&(decide (0≤c)&&(decide (c≤1)&&(decide (0≤i)&&decide (nv xs+pw i.toNat*c<pw n)))))))
def put.lt (o n m:Nat) (c i:Int) (xs:List Int) (ty:TypeId) (nx:Nat):LT:= .got (put.ok o n c i xs) (.exit 0) ⟨gbuild [] 0 63,[(0,.is .u32 (dg n (nv xs+pw i.toNat*c)) ty)],nx⟩
theorem put.go {N:Nat→Prop} (n m:Nat) (ty:TypeId) (nx:Nat) (hn:n≤4294967299) (V:Int) (hV:V<pw n):∀(j k:Nat) (c:Int) (xs:List Int),n≤k+j→xs.length=n→dig xs→0≤c→c≤1→nv xs+pw k*c=V→Lq Tryz.prog N (Ay Tryz.f209 0) (put.st 0 n m c (k:Int) xs ty nx) (.exit 0) ⟨gbuild [] 0 63,[(0,.is .u32 (dg n V) ty)],nx⟩
 | j, k, c,xs,hj,hl,hd,hc,hc1,hv=>by
  by_cases h0:c=0
  ·subst h0
   rw [Int.mul_zero,Int.add_zero] at hv
   have:dg n V=xs:=by rw [←hv,←hl]; exact Ho hd
   rw [this]
   exact put.stop1 _ _ _ _ _ _ _ _ rfl
  ·have hlt:k<n:=by
    rcases Nat.lt_or_ge k n with h|h
    ·exact h
    ·exfalso
     have h1:=Fh h
     have h2:=Dx hd
     have h3:c=1:=by omega
     rw [h3,Int.mul_one] at hv
     omega
   match j,hj with
   |0,hj=>omega
   | j+1,hj=>
    have e0:0+((k:Int)).toNat*1=k:=by simp
    have e1:i64.wrap ((k:Int)+1)=((k+1:Nat):Int):=by rw [w64 (by omega) (by omega)]; omega
    have hX:=EF hd k
    have c1:(decide (0≤(k:Int))&&decide ((k:Int)<(n:Int)))=true:=dtrue2 (by omega) (by omega)
    have c2:(0+((k:Int)).toNat*1).blt xs.length=true:=by rw [e0]; exact EM (by omega)
    refine put.step0 _ _ _ _ _ _ _ _ (E8 h0) c1 c2 c1 c2 ?_
    rw [e0,e1,Gg hX.1 hX.2 (Int.le_refl 0) (by decide) hc hc1,Int.add_zero,Hp (by omega) (by omega),wu32]
    have hcar:=L2 xs k c (by omega)
    exact put.go n m ty nx hn V hV j (k+1) _ _ (by omega) (by rw [List.length_set]; exact hl) (Md hd k (Int.emod_nonneg _ (by decide)) (Int.emod_lt_of_pos _ (by decide))) (by omega) (by omega) (by rw [hcar]; exact hv)
theorem put.lp {N:Nat→Prop} (o n m:Nat) (c i:Int) (xs:List Int) (ty:TypeId) (nx:Nat) {x:X} {S':St} (h:(put.lt o n m c i xs ty nx).at=some (x,S')):Lq Tryz.prog N (Ay Tryz.f209 0) (put.st o n m c i xs ty nx) x S':=by
 obtain ⟨h1,rfl,rfl⟩:=Ez h
 simp only [put.ok,zB,Nat.ble_eq,zD,Fw] at h1
 obtain ⟨h1,h2,h3,h4,h5,h6,h7,h8⟩:=h1
 obtain rfl:=zE h1
 have h2:=zE h2
 obtain ⟨k,rfl⟩:=Int.eq_ofNat_of_zero_le h7
 exact put.go n m ty nx h3 _ h8 n k c xs (by omega) h2.symm h4 h5 h6 rfl
def put.t:LSpec:=fun S=>match RX.nth S.tmps 0,RX.nth S.tmps 10,RX.nth S.tmps 11,RX.look S.heap 0 with
 | .slice (some ⟨0,o,none⟩) n m,.int .u32 c,.int .i64 i,some (.is .u32 xs ty)=>bif Nat.beq S.tmps.length 63 then some (put.lt o n m c i xs ty S.nxt) else none
 |_,_,_,_=>none
theorem put.lok {N:Nat→Prop} :LOKn Tryz.prog N (Ay Tryz.f209 0) (put.t):=by
 refine FS fun S lt x S' ht hat=> ?_
 unfold put.t at ht
 split at ht
 ·rename_i o n m c i xs ty h0 h10 h11 g0
  cases hb:Nat.beq S.tmps.length 63 with
  |false=>rw [hb] at ht; cases ht
  | true=>
   rw [hb] at ht
   injection ht with ht
   subst ht
   have hb:=zE hb
   exact .enter (fun h=>FW hb (.cons ⟨h0,bnth h h0⟩ (.cons ⟨h10,bnth h h10⟩ (.cons ⟨h11,bnth h h11⟩ .nil))) (.cons ⟨g0,bname h g0,rfl⟩ .nil)) (put.lp _ _ _ _ _ _ _ _ hat)
 ·cases ht
theorem rput.run (o n m:Nat) (xs:List Int) (at_ x y:Int):xfn Tryz.prog ⟨[],[(207,Tryz.f207),(220,Tryz.f220)],[]⟩ [(0,put.t)] 10 Tryz.f209 [.slice (some ⟨0,o,none⟩) n m,.int .i64 at_,.int .u32 x,.int .u32 y] [.is .u32 xs 64]=
 bif decide (0≤at_)&&decide (at_<((n:Nat):Int)) then bif (o+at_.toNat*1).blt xs.length then bif decide (0≤at_)&&decide (at_<((n:Nat):Int)) then bif (o+at_.toNat*1).blt xs.length then bif decide (0≤i64.wrap (at_+1))&&decide (i64.wrap (at_+1)<((n:Nat):Int)) then bif (o+(i64.wrap (at_+1)).toNat*1).blt (xs.set (o+at_.toNat*1) (u32.wrap (u64.wrap (u64.wrap (u64.wrap (xs.getD (o+at_.toNat*1) 0)+u64.wrap (u32.wrap (u64.wrap (u64.wrap x*u64.wrap y))))+u64.wrap 0)))).length then bif decide (0≤i64.wrap (at_+1))&&decide (i64.wrap (at_+1)<((n:Nat):Int)) then bif (o+(i64.wrap (at_+1)).toNat*1).blt (xs.set (o+at_.toNat*1) (u32.wrap (u64.wrap (u64.wrap (u64.wrap (xs.getD (o+at_.toNat*1) 0)+u64.wrap (u32.wrap (u64.wrap (u64.wrap x*u64.wrap y))))+u64.wrap 0)))).length then bif put.ok o n (u32.wrap ((u64.wrap (u64.wrap (u64.wrap ((xs.set (o+at_.toNat*1) (u32.wrap (u64.wrap (u64.wrap (u64.wrap (xs.getD (o+at_.toNat*1) 0)+u64.wrap (u32.wrap (u64.wrap (u64.wrap x*u64.wrap y))))+u64.wrap 0)))).getD (o+(i64.wrap (at_+1)).toNat*1) 0)+u64.wrap (u32.wrap ((u64.wrap (u64.wrap x*u64.wrap y)).fdiv (2^min (Int.toNat 32) u64.bits))))+u64.wrap (u32.wrap ((u64.wrap (u64.wrap (u64.wrap (xs.getD (o+at_.toNat*1) 0)+u64.wrap (u32.wrap (u64.wrap (u64.wrap x*u64.wrap y))))+u64.wrap 0)).fdiv (2^min (Int.toNat 32) u64.bits))))).fdiv (2^min (Int.toNat 32) u64.bits))) (i64.wrap (at_+2)) ((xs.set (o+at_.toNat*1) (u32.wrap (u64.wrap (u64.wrap (u64.wrap (xs.getD (o+at_.toNat*1) 0)+u64.wrap (u32.wrap (u64.wrap (u64.wrap x*u64.wrap y))))+u64.wrap 0)))).set (o+(i64.wrap (at_+1)).toNat*1) (u32.wrap (u64.wrap (u64.wrap (u64.wrap ((xs.set (o+at_.toNat*1) (u32.wrap (u64.wrap (u64.wrap (u64.wrap (xs.getD (o+at_.toNat*1) 0)+u64.wrap (u32.wrap (u64.wrap (u64.wrap x*u64.wrap y))))+u64.wrap 0)))).getD (o+(i64.wrap (at_+1)).toNat*1) 0)+u64.wrap (u32.wrap ((u64.wrap (u64.wrap x*u64.wrap y)).fdiv (2^min (Int.toNat 32) u64.bits))))+u64.wrap (u32.wrap ((u64.wrap (u64.wrap (u64.wrap (xs.getD (o+at_.toNat*1) 0)+u64.wrap (u32.wrap (u64.wrap (u64.wrap x*u64.wrap y))))+u64.wrap 0)).fdiv (2^min (Int.toNat 32) u64.bits))))))) then some ((Value.tuple ⟨[]⟩,[Blk.is u32 (dg n (nv ((xs.set (o+at_.toNat*1) (u32.wrap (u64.wrap (u64.wrap (u64.wrap (xs.getD (o+at_.toNat*1) 0)+u64.wrap (u32.wrap (u64.wrap (u64.wrap x*u64.wrap y))))+u64.wrap 0)))).set (o+(i64.wrap (at_+1)).toNat*1) (u32.wrap (u64.wrap (u64.wrap (u64.wrap ((xs.set (o+at_.toNat*1) (u32.wrap (u64.wrap (u64.wrap (u64.wrap (xs.getD (o+at_.toNat*1) 0)+u64.wrap (u32.wrap (u64.wrap (u64.wrap x*u64.wrap y))))+u64.wrap 0)))).getD (o+(i64.wrap (at_+1)).toNat*1) 0)+u64.wrap (u32.wrap ((u64.wrap (u64.wrap x*u64.wrap y)).fdiv (2^min (Int.toNat 32) u64.bits))))+u64.wrap (u32.wrap ((u64.wrap (u64.wrap (u64.wrap (xs.getD (o+at_.toNat*1) 0)+u64.wrap (u32.wrap (u64.wrap (u64.wrap x*u64.wrap y))))+u64.wrap 0)).fdiv (2^min (Int.toNat 32) u64.bits)))))))+pw (i64.wrap (at_+2)).toNat*u32.wrap ((u64.wrap (u64.wrap (u64.wrap ((xs.set (o+at_.toNat*1) (u32.wrap (u64.wrap (u64.wrap (u64.wrap (xs.getD (o+at_.toNat*1) 0)+u64.wrap (u32.wrap (u64.wrap (u64.wrap x*u64.wrap y))))+u64.wrap 0)))).getD (o+(i64.wrap (at_+1)).toNat*1) 0)+u64.wrap (u32.wrap ((u64.wrap (u64.wrap x*u64.wrap y)).fdiv (2^min (Int.toNat 32) u64.bits))))+u64.wrap (u32.wrap ((u64.wrap (u64.wrap (u64.wrap (xs.getD (o+at_.toNat*1) 0)+u64.wrap (u32.wrap (u64.wrap (u64.wrap x*u64.wrap y))))+u64.wrap 0)).fdiv (2^min (Int.toNat 32) u64.bits))))).fdiv (2^min (Int.toNat 32) u64.bits)))) 64]))
 else none else none else none else none else none else none else none else none else none:=by kernel_rfl
def rput.run0:=fun o n m xs at_ x y h0 h1 h2 h3 h4 h5 h6 h7 h8=>((((((((((rput.run o n m xs at_ x y).ct h0).ct h1).ct h2).ct h3).ct h4).ct h5).ct h6).ct h7).ct h8)
def Ox (o n:Nat) (xs:List Int) (at_ x y:Int):Bool:=Nat.beq o 0&&(Nat.beq n xs.length&&(Nat.ble n 4294967299&&(digB xs&&(decide (0≤at_)&&(decide (at_+1<(n:Int))&&(decide (0≤x)&&(decide (x<4294967296)&&(decide (0≤y)&&(decide (y<4294967296)&&decide (nv xs+pw at_.toNat*(x*y)<pw n))))))))))
def put.sp:HSpec
 |[.slice (some ⟨0,o,none⟩) n m,.int .i64 at_,.int .u32 x,.int .u32 y],[.is .u32 xs 64]=>some (Ox o n xs at_ x y,.tuple ⟨[]⟩,[.is .u32 (dg n (nv xs+pw at_.toNat*(x*y))) 64])
 |_,_=>none
theorem Ga.ok:SOK Tryz.prog 209 put.sp:=by
 refine Dl (E:=⟨[],[(207,Tryz.f207),(220,Tryz.f220)],[]⟩) (L:=[(0,put.t)]) ⟨Ac,Bu ⟨Tryz.func207,by decide,rfl⟩ (Bu ⟨Tryz.func220,by decide,rfl⟩ Aq),Aj,Ap⟩ 10 Tryz.func209 (by decide) rfl (F2 rfl rfl put.lok) fun vs bl v bl' h=> ?_
 unfold put.sp at h
 split at h
 ·rename_i o n m at_ x y xs
  simp only [zS,zP] at h
  obtain ⟨h1,rfl,rfl⟩:=h
  simp only [Ox,zB,Nat.ble_eq,zD,Fw] at h1
  obtain ⟨h1,h2,h3,hd,h5,h6,x0,x1,y0,y1,hV⟩:=h1
  obtain rfl:=zE h1
  have hl:=(zE h2).symm
  obtain ⟨k,rfl⟩:=Int.eq_ofNat_of_zero_le h5
  refine ⟨?_,by simp [okV,Nat.blt],clo_spec 8 _ rfl,Bg rfl⟩
  have p0:0≤x*y:=Int.mul_nonneg x0 y0
  have p1:x*y≤4294967295*4294967295:=Int.mul_le_mul (by omega) (by omega) (by omega) (by omega)
  have eP:u64.wrap (u64.wrap x*u64.wrap y)=x*y:=by rw [u64of (n:=x) (by omega) (by omega),u64of (n:=y) (by omega) (by omega),u64of (by omega) (by omega)]
  have eHi:u32.wrap ((x*y).fdiv (2^min (Int.toNat 32) u64.bits))=x*y/4294967296:=by
   rw [Int.fdiv_eq_ediv_of_nonneg _ (by decide),show ((2:Int)^min (Int.toNat 32) u64.bits)=4294967296 from rfl,u32of (by omega) (by omega)]
  have e0:0+((k:Int)).toNat*1=k:=by simp
  have e1:i64.wrap ((k:Int)+1)=((k+1:Nat):Int):=by rw [w64 (by omega) (by omega)]; omega
  have e2:i64.wrap ((k:Int)+2)=((k+2:Nat):Int):=by rw [w64 (by omega) (by omega)]; omega
  have e3:0+(((k+1:Nat):Int)).toNat*1=k+1:=by simp
  have hr:=rput.run0 0 n m xs (k:Int) x y
  simp only [eP,eHi,e0,e1,e2,e3] at hr
  rw [wu32 (x*y)] at hr
  have l0:=Int.emod_nonneg (x*y) (show (4294967296:Int)≠0 by decide)
  have l1:=Int.emod_lt_of_pos (x*y) (show (0:Int)<4294967296 by decide)
  have hsplit:x*y=x*y%4294967296+4294967296*(x*y/4294967296):=(Int.emod_add_mul_ediv _ _).symm
  have u0:0≤x*y/4294967296:=by omega
  have u1:x*y/4294967296<4294967295:=by omega
  generalize x*y%4294967296=lo at*
  generalize x*y/4294967296=hi at*
  have hX:=EF hd k
  rw [Gg hX.1 hX.2 l0 l1 (Int.le_refl 0) (by decide),Int.add_zero,Hp (v:=xs.getD k 0+lo) (by omega) (by omega),wu32 (xs.getD k 0+lo)] at hr
  have hd1:dig (xs.set k ((xs.getD k 0+lo)%4294967296)):=Md hd k (Int.emod_nonneg _ (by decide)) (Int.emod_lt_of_pos _ (by decide))
  have hc1:=L2 xs k lo (by omega)
  have hcb0:0≤(xs.getD k 0+lo)/4294967296:=by omega
  have hcb1:(xs.getD k 0+lo)/4294967296≤1:=by omega
  have hl1:(xs.set k ((xs.getD k 0+lo)%4294967296)).length=n:=by rw [List.length_set]; exact hl
  generalize (xs.getD k 0+lo)/4294967296=c1 at*
  generalize xs.set k ((xs.getD k 0+lo)%4294967296)=zs at*
  have hZ:=EF hd1 (k+1)
  rw [Gg hZ.1 hZ.2 u0 (by omega) hcb0 hcb1,Hp (v:=zs.getD (k+1) 0+hi+c1) (by omega) (by omega),wu32 (zs.getD (k+1) 0+hi+c1),Int.add_assoc] at hr
  have hc2:=L2 zs (k+1) (hi+c1) (by omega)
  have hd2:dig (zs.set (k+1) ((zs.getD (k+1) 0+(hi+c1))%4294967296)):=Md hd1 (k+1) (Int.emod_nonneg _ (by decide)) (Int.emod_lt_of_pos _ (by decide))
  have hl2:(zs.set (k+1) ((zs.getD (k+1) 0+(hi+c1))%4294967296)).length=n:=by rw [List.length_set]; exact hl1
  have hfin:nv (zs.set (k+1) ((zs.getD (k+1) 0+(hi+c1))%4294967296))+pw (k+2)*((zs.getD (k+1) 0+(hi+c1))/4294967296)=nv xs+pw k*(x*y):=by
   rw [hc2,Int.mul_add,hsplit,Int.mul_add,←Int.mul_assoc,Int.mul_comm (pw k) 4294967296,←Eb]
   omega
  have hcc0:0≤(zs.getD (k+1) 0+(hi+c1))/4294967296:=by omega
  have hcc1:(zs.getD (k+1) 0+(hi+c1))/4294967296≤1:=by omega
  have k1:(decide (0≤(k:Int))&&decide ((k:Int)<(n:Int)))=true:=dtrue2 (by omega) (by omega)
  have k2:k.blt xs.length=true:=EM (by omega)
  have k3:(decide (0≤((k+1:Nat):Int))&&decide (((k+1:Nat):Int)<(n:Int)))=true:=dtrue2 (by omega) (by omega)
  have k4:(k+1).blt zs.length=true:=EM (by omega)
  have ht2:(((k+2:Nat):Int)).toNat=k+2:=by omega
  rw [ht2,hfin] at hr
  rw [Int.toNat_natCast]
  refine hr k1 k2 k1 k2 k3 k4 k3 k4 ?_
  simp only [put.ok,zB,Nat.ble_eq,zD,Fw,Nat.beq_eq]
  exact ⟨trivial,hl2.symm,h3,hd2,hcc0,hcc1,by omega,by rw [ht2,hfin]; rw [Int.toNat_natCast] at hV; exact hV⟩
 ·cases h
section
variable {N:Nat→Prop} {xe:X} {Se:St} (n2 m2 n m:Nat) (i xx:Int) (op lp cp oa la ca:Nat) (z i0:Int) (ob lb cb:Nat) (y k:Int) (xs:List Int) (ta:TypeId) (ys:List Int) (tb:TypeId) (out:List Int) (nx:Nat)
abbrev muli.st:St:=⟨gbuild [(1,.slice (some ⟨1,op,none⟩) lp cp),(5,.slice (some ⟨114,0,none⟩) n m),(6,.func (.func 209) ⟨[.slice (some ⟨114,0,none⟩) n2 m2]⟩ ⟨[]⟩),(7,.int .i64 i),(8,.int .u32 xx),(20,.slice (some ⟨0,oa,none⟩) la ca),(21,.int .i64 z),(22,.int .i64 i0),(27,.slice (some ⟨1,ob,none⟩) lb cb),(28,.int .i64 y),(29,.int .i64 k)] 0 45,[(0,.is .u32 xs ta),(1,.is .u32 ys tb),(114,.is .u32 out 64)],nx⟩
abbrev muli.lk:=RX.lk [1,5,6,7,8,20,21,22,27,28,29] [0,1,114]
theorem muli.rnd:rd Tryz.prog ⟨[(209,put.sp)],[],[]⟩ [] 5 (Jg (Ay Tryz.f192 0) 2) (muli.st n2 m2 n m i xx op lp cp oa la ca z i0 ob lb cb y k xs ta ys tb out nx) 45 [1,5,6,7,8,20,21,22,27,28,29] [0,1,114]=
 bif decide (k<y) then bif decide (0≤k)&&decide (k<((lb:Nat):Int)) then bif (ob+k.toNat*1).blt ys.length then bif Ox 0 n2 out (i64.wrap (i+k)) xx (ys.getD (ob+k.toNat*1) 0) then muli.lk .normal (muli.st n2 m2 n m i xx op lp cp oa la ca z i0 ob lb cb y (i64.wrap (k+1)) xs ta ys tb (dg n2 (nv out+pw (i64.wrap (i+k)).toNat*(xx*ys.getD (ob+k.toNat*1) 0))) nx) else none else none else none else muli.lk (.exit 2) (muli.st n2 m2 n m i xx op lp cp oa la ca z i0 ob lb cb y k xs ta ys tb out nx):=by kernel_rfl
def muli.step0:=fun h0 h1 h2 h3 (ih:Lq Tryz.prog N (Jg (Ay Tryz.f192 0) 2) _ xe Se)=>Lq.toK (f:=5) ⟨Aa Ga.ok Ac,Aq,Aj,Ap⟩ Bs (((((muli.rnd n2 m2 n m i xx op lp cp oa la ca z i0 ob lb cb y k xs ta ys tb out nx).ct h0).ct h1).ct h2).ct h3) rfl rfl ih
def muli.stop1:=fun h0=>Lq.endK (N:=N) (f:=5) ⟨Aa Ga.ok Ac,Aq,Aj,Ap⟩ Bs ((muli.rnd n2 m2 n m i xx op lp cp oa la ca z i0 ob lb cb y k xs ta ys tb out nx).cf h0) (fun q=>by cases q) rfl rfl
end
theorem MP (a b:Nat):pw (a+b)=pw a*pw b:=by simp only [pw,Nat.pow_add,Int.natCast_mul]
theorem Lv {ys:List Int} (hy:dig ys) {ob:Nat} :∀(d k:Nat),ob+(k+d)≤ys.length→nv (seg ys ob k)≤nv (seg ys ob (k+d))
 |0,k,_=>Int.le_refl _
 | d+1,k,h=>by
  have ih:=Lv hy (ob:=ob) d k (by omega)
  rw [←Nat.add_assoc,EU (o:=ob) (l:=k+d) (by omega)]
  have h1:=(EF hy (ob+(k+d))).1
  have h2:=Int.mul_nonneg (Int.le_of_lt (Ep (k+d))) h1
  omega
def muli.ok (n2 n:Nat) (i xx:Int) (ob lb:Nat) (y k:Int) (ys out:List Int):Bool:=
 Nat.beq n2 n&&(Nat.beq n out.length&&(Nat.ble n 4294967299&&(digB out&&(decide (0≤i)&&(decide (i+(lb:Int)<(n:Int))&&(decide (0≤xx)&&(decide (xx<4294967296)&&(decide (k=0)&&(decide (y=(lb:Int))&&(Di ob lb ys&&decide (nv out+pw i.toNat*(xx*nv (seg ys ob lb))<pw n)))))))))))
def muli.lt (n2 m2 n m:Nat) (i xx:Int) (op lp cp oa la ca:Nat) (z i0:Int) (ob lb cb:Nat) (y k:Int) (xs:List Int) (ta:TypeId) (ys:List Int) (tb:TypeId) (out:List Int) (nx:Nat):LT:= .got (muli.ok n2 n i xx ob lb y k ys out) (.exit 2) (muli.st n2 m2 n m i xx op lp cp oa la ca z i0 ob lb cb y y xs ta ys tb (dg n (nv out+pw i.toNat*(xx*nv (seg ys ob lb)))) nx)
theorem muli.go {N:Nat→Prop} (m2 n m:Nat) (i:Nat) (xx:Int) (op lp cp oa la ca:Nat) (z i0:Int) (ob lb cb:Nat) (xs:List Int) (ta:TypeId) (ys:List Int) (tb:TypeId) (nx:Nat) (Q:Int) (hn:n≤4294967299) (hQ:0≤Q) (hi:i+lb<n) (x0:0≤xx) (x1:xx<4294967296) (h4:ob+lb≤ys.length) (hy:dig ys) (hV:Q+pw i*(xx*nv (seg ys ob lb))<pw n):∀(j k:Nat),k+j=lb→Lq Tryz.prog N (Jg (Ay Tryz.f192 0) 2) (muli.st n m2 n m (i:Int) xx op lp cp oa la ca z i0 ob lb cb (lb:Int) (k:Int) xs ta ys tb (dg n (Q+pw i*(xx*nv (seg ys ob k)))) nx) (.exit 2) (muli.st n m2 n m (i:Int) xx op lp cp oa la ca z i0 ob lb cb (lb:Int) (lb:Int) xs ta ys tb (dg n (Q+pw i*(xx*nv (seg ys ob lb)))) nx)
 | 0,k,h=>by
  obtain rfl:k=lb:=by omega
  exact muli.stop1 _ _ _ _ _ _ _ _ _ _ _ _ _ _ _ _ _ _ _ _ _ _ _ _ _ (dfalse (by omega))
 | j +1,k,h=>by
  have e1:i64.wrap ((k:Int)+1)=((k+1:Nat):Int):=by rw [w64 (by omega) (by omega)]; omega
  have e2:i64.wrap ((i:Int)+(k:Int))=((i+k:Nat):Int):=by rw [w64 (by omega) (by omega)]; omega
  have eb:ob+((k:Int)).toNat*1=ob+k:=by simp
  have hY:=EF hy (ob+k)
  have hp:=Ep i
  have mono:∀q,q≤lb→0≤Q+pw i*(xx*nv (seg ys ob q))∧Q+pw i*(xx*nv (seg ys ob q))<pw n:=fun q hq=>by
   have hle:=Lv hy (ob:=ob) (lb-q) q (by omega)
   rw [show q+(lb-q)=lb by omega] at hle
   have h1:xx*nv (seg ys ob q)≤xx*nv (seg ys ob lb):=Int.mul_le_mul_of_nonneg_left hle x0
   have h2:pw i*(xx*nv (seg ys ob q))≤pw i*(xx*nv (seg ys ob lb)):=Int.mul_le_mul_of_nonneg_left h1 (by omega)
   have h3:0≤pw i*(xx*nv (seg ys ob q)):=Int.mul_nonneg (by omega) (Int.mul_nonneg x0 (Dx (EB hy ob q)))
   omega
  have hk:=mono k (by omega)
  have hk1:=mono (k+1) (by omega)
  have hst:Q+pw i*(xx*nv (seg ys ob k))+pw (i+k)*(xx*ys.getD (ob+k) 0)=Q+pw i*(xx*nv (seg ys ob (k+1))):=by
   rw [EU (o:=ob) (l:=k) (by omega),MP,Int.mul_add xx,Int.mul_add (pw i),Int.mul_assoc (pw i),Int.mul_left_comm (pw k) xx,Int.add_assoc]
  have hnv:=G0 n (Q+pw i*(xx*nv (seg ys ob k))) hk.1 hk.2
  refine muli.step0 _ _ _ _ _ _ _ _ _ _ _ _ _ _ _ _ _ _ _ _ _ _ _ _ _ (dtrue (by omega)) (dtrue2 (by omega) (by omega)) (by rw [eb]; exact EM (by omega)) ?_ ?_
  ·rw [eb,e2]
   simp only [Ox,zB,Nat.ble_eq,zD,Fw,Nat.beq_eq,Cw,Int.toNat_natCast]
   rw [hnv,hst]
   exact ⟨trivial,trivial,hn,F4 _ _,by omega,by omega,x0,x1,hY.1,hY.2,hk1.2⟩
  ·rw [eb,e1,e2,Int.toNat_natCast,hnv,hst]
   exact muli.go m2 n m i xx op lp cp oa la ca z i0 ob lb cb xs ta ys tb nx Q hn hQ hi x0 x1 h4 hy hV j (k+1) (by omega)
theorem muli.lp {N:Nat→Prop} (n2 m2 n m:Nat) (i xx:Int) (op lp cp oa la ca:Nat) (z i0:Int) (ob lb cb:Nat) (y k:Int) (xs:List Int) (ta:TypeId) (ys:List Int) (tb:TypeId) (out:List Int) (nx:Nat) {x:X} {S':St} (h:(muli.lt n2 m2 n m i xx op lp cp oa la ca z i0 ob lb cb y k xs ta ys tb out nx).at=some (x,S')):Lq Tryz.prog N (Jg (Ay Tryz.f192 0) 2) (muli.st n2 m2 n m i xx op lp cp oa la ca z i0 ob lb cb y k xs ta ys tb out nx) x S':=by
 obtain ⟨h1,rfl,rfl⟩:=Ez h
 simp only [muli.ok,zB,Nat.ble_eq,zD,Fw,Dy] at h1
 obtain ⟨h1,h2,h3,h4,h5,h6,h7,h8,rfl,rfl,⟨h9,h10,h11⟩,h12⟩:=h1
 obtain rfl:=zE h1
 have h2:=zE h2
 obtain ⟨i,rfl⟩:=Int.eq_ofNat_of_zero_le h5
 rw [Int.toNat_natCast] at h12 ⊢
 have:=muli.go (N:=N) m2 n2 m i xx op lp cp oa la ca z i0 ob lb cb xs ta ys tb nx (nv out) h3 (Dx h4) (by omega) h7 h8 h9 h11 h12 lb 0 (by omega)
 rw [FH,show nv ([]:List Int)=0 from rfl,Int.mul_zero,Int.mul_zero,Int.add_zero] at this
 have he:dg n2 (nv out)=out:=by rw [h2]; exact Ho h4
 rw [he] at this
 exact this
def muli.t:LSpec:=fun S=>match RX.nth S.tmps 1,RX.nth S.tmps 5,RX.nth S.tmps 6,RX.nth S.tmps 7,RX.nth S.tmps 8,RX.nth S.tmps 20,RX.nth S.tmps 21,RX.nth S.tmps 22,RX.nth S.tmps 27,RX.nth S.tmps 28,RX.nth S.tmps 29,RX.look S.heap 0,RX.look S.heap 1,RX.look S.heap 114 with
 | .slice (some ⟨1,op,none⟩) lp cp,.slice (some ⟨114,0,none⟩) n m,.func (.func 209) ⟨[.slice (some ⟨114,0,none⟩) n2 m2]⟩ ⟨[]⟩,.int .i64 i,.int .u32 xx,.slice (some ⟨0,oa,none⟩) la ca,.int .i64 z,.int .i64 i0,.slice (some ⟨1,ob,none⟩) lb cb,.int .i64 y,.int .i64 k,some (.is .u32 xs ta),some (.is .u32 ys tb),some (.is .u32 out 64)=>bif Nat.beq S.tmps.length 45 then some (muli.lt n2 m2 n m i xx op lp cp oa la ca z i0 ob lb cb y k xs ta ys tb out S.nxt) else none
 |_,_,_,_,_,_,_,_,_,_,_,_,_,_=>none
theorem muli.lok {N:Nat→Prop} :LOKn Tryz.prog N (Jg (Ay Tryz.f192 0) 2) (muli.t):=by
 refine FS fun S lt x S' ht hat=> ?_
 unfold muli.t at ht
 split at ht
 ·rename_i op lp cp n m n2 m2 i xx oa la ca z i0 ob lb cb y k xs ta ys tb out h1 h5 h6 h7 h8 h20 h21 h22 h27 h28 h29 g0 g1 g114
  cases hb:Nat.beq S.tmps.length 45 with
  |false=>rw [hb] at ht; cases ht
  | true=>
   rw [hb] at ht
   injection ht with ht
   subst ht
   have hb:=zE hb
   exact .enter (fun h=>FW hb (.cons ⟨h1,bnth h h1⟩ (.cons ⟨h5,bnth h h5⟩ (.cons ⟨h6,bnth h h6⟩ (.cons ⟨h7,bnth h h7⟩ (.cons ⟨h8,bnth h h8⟩ (.cons ⟨h20,bnth h h20⟩ (.cons ⟨h21,bnth h h21⟩ (.cons ⟨h22,bnth h h22⟩ (.cons ⟨h27,bnth h h27⟩ (.cons ⟨h28,bnth h h28⟩ (.cons ⟨h29,bnth h h29⟩ .nil))))))))))) (.cons ⟨g0,bname h g0,rfl⟩ (.cons ⟨g1,bname h g1,rfl⟩ (.cons ⟨g114,bname h g114,rfl⟩ .nil)))) (muli.lp _ _ _ _ _ _ _ _ _ _ _ _ _ _ _ _ _ _ _ _ _ _ _ _ _ hat)
 ·cases ht
section
variable {N:Nat→Prop} {xe:X} {Se:St} (n2 m2 n m ob lb cb oa la ca:Nat) (z i:Int) (xs:List Int) (ta:TypeId) (ys:List Int) (tb:TypeId) (out:List Int) (nx:Nat)
abbrev mulo.st:St:=⟨gbuild [(1,.slice (some ⟨1,ob,none⟩) lb cb),(5,.slice (some ⟨114,0,none⟩) n m),(6,.func (.func 209) ⟨[.slice (some ⟨114,0,none⟩) n2 m2]⟩ ⟨[]⟩),(20,.slice (some ⟨0,oa,none⟩) la ca),(21,.int .i64 z),(22,.int .i64 i)] 0 45,[(0,.is .u32 xs ta),(1,.is .u32 ys tb),(114,.is .u32 out 64)],nx⟩
abbrev mulo.lk:=RX.lk [1,5,6,20,21,22] [0,1,114]
theorem mulo.rnd:rd Tryz.prog ⟨[(209,put.sp)],[],[]⟩ [(2,muli.t)] 5 (Ay Tryz.f192 0) (mulo.st n2 m2 n m ob lb cb oa la ca z i xs ta ys tb out nx) 45 [1,5,6,20,21,22] [0,1,114]=
 bif decide (i<z) then bif decide (0≤i)&&decide (i<((la:Nat):Int)) then bif (oa+i.toNat*1).blt xs.length then bif muli.ok n2 n i (xs.getD (oa+i.toNat*1) 0) ob lb (((lb:Nat):Int)) 0 ys out then mulo.lk .normal (mulo.st n2 m2 n m ob lb cb oa la ca z (i64.wrap (i+1)) xs ta ys tb (dg n (nv out+pw i.toNat*(xs.getD (oa+i.toNat*1) 0*nv (seg ys ob lb)))) nx) else none else none else none else mulo.lk (.exit 0) (mulo.st n2 m2 n m ob lb cb oa la ca z i xs ta ys tb out nx):=by kernel_rfl
def mulo.step0:=fun h0 h1 h2 h3 (ih:Lq Tryz.prog N (Ay Tryz.f192 0) _ xe Se)=>Lq.toK (f:=5) ⟨Aa Ga.ok Ac,Aq,Aj,Ap⟩ (Er rfl muli.lok Bs) (((((mulo.rnd n2 m2 n m ob lb cb oa la ca z i xs ta ys tb out nx).ct h0).ct h1).ct h2).ct h3) rfl rfl ih
def mulo.stop1:=fun h0=>Lq.endK (N:=N) (f:=5) ⟨Aa Ga.ok Ac,Aq,Aj,Ap⟩ (Er rfl muli.lok Bs) ((mulo.rnd n2 m2 n m ob lb cb oa la ca z i xs ta ys tb out nx).cf h0) (fun q=>by cases q) rfl rfl
end
def mulo.ok (n2 n ob lb oa la:Nat) (z i:Int) (xs ys out:List Int):Bool:=
 Nat.beq n2 n&&(Nat.beq n (la+lb+1)&&(decide (out=List.replicate n 0)&&(decide (i=0)&&(decide (z=(la:Int))&&(Di oa la xs&&(Di ob lb ys&&Nat.ble n 4294967299))))))
def mulo.lt (n2 m2 n m ob lb cb oa la ca:Nat) (z i:Int) (xs:List Int) (ta:TypeId) (ys:List Int) (tb:TypeId) (out:List Int) (nx:Nat):LT:= .got (mulo.ok n2 n ob lb oa la z i xs ys out) (.exit 0) (mulo.st n2 m2 n m ob lb cb oa la ca z z xs ta ys tb (dg n (nv (seg xs oa la)*nv (seg ys ob lb))) nx)
theorem Qf {a b:Int} {j k:Nat} (a0:0≤a) (a1:a<pw j) (b0:0≤b) (b1:b<pw k):a*b<pw (j+k):=by
 rw [MP]
 have hj:=Ep j
 have h1:a*b≤(pw j-1)*b:=Int.mul_le_mul_of_nonneg_right (by omega) b0
 have h2:(pw j-1)*b≤(pw j-1)*(pw k-1):=Int.mul_le_mul_of_nonneg_left (by omega) (by omega)
 have h3:(pw j-1)*(pw k-1)=pw j*pw k-pw j-pw k+1:=by rw [Int.sub_mul,Int.mul_sub]; omega
 have hk:=Ep k
 omega
theorem mulo.go {N:Nat→Prop} (m2 n m ob lb cb oa la ca:Nat) (xs:List Int) (ta:TypeId) (ys:List Int) (tb:TypeId) (nx:Nat) (hn:n=la+lb+1) (hn2:n≤4294967299) (hA:Di oa la xs=true) (hB:Di ob lb ys=true):∀(j i:Nat),i+j=la→Lq Tryz.prog N (Ay Tryz.f192 0) (mulo.st n m2 n m ob lb cb oa la ca (la:Int) (i:Int) xs ta ys tb (dg n (nv (seg xs oa i)*nv (seg ys ob lb))) nx) (.exit 0) (mulo.st n m2 n m ob lb cb oa la ca (la:Int) (la:Int) xs ta ys tb (dg n (nv (seg xs oa la)*nv (seg ys ob lb))) nx)
 | 0,i,h=>by
  obtain rfl:i=la:=by omega
  exact mulo.stop1 _ _ _ _ _ _ _ _ _ _ _ _ _ _ _ _ _ _ (dfalse (by omega))
 | j +1,i,h=>by
  obtain ⟨h1,h2,h3⟩:=Dy.1 hA
  obtain ⟨h4,h5,h6⟩:=Dy.1 hB
  have e1:i64.wrap ((i:Int)+1)=((i+1:Nat):Int):=by rw [w64 (by omega) (by omega)]; omega
  have ea:oa+((i:Int)).toNat*1=oa+i:=by simp
  have hX:=EF h3 (oa+i)
  have bB:=FF (EB h6 ob lb)
  have bB0:=Dx (EB h6 ob lb)
  rw [EL h4] at bB
  have bnd:∀q,q≤la→0≤nv (seg xs oa q)*nv (seg ys ob lb)∧nv (seg xs oa q)*nv (seg ys ob lb)<pw n:=fun q hq=>by
   have a1:=FF (EB h3 oa q)
   have a0:=Dx (EB h3 oa q)
   rw [EL (by omega)] at a1
   exact ⟨Int.mul_nonneg a0 bB0,Int.lt_of_lt_of_le (Qf a0 a1 bB0 bB) (Fh (by omega))⟩
  have hk:=bnd i (by omega)
  have hk1:=bnd (i+1) (by omega)
  have hst:nv (seg xs oa i)*nv (seg ys ob lb)+pw i*(xs.getD (oa+i) 0*nv (seg ys ob lb))=nv (seg xs oa (i+1))*nv (seg ys ob lb):=by
   rw [EU (o:=oa) (l:=i) (by omega),Int.add_mul,Int.mul_assoc]
  have hnv:=G0 n _ hk.1 hk.2
  refine mulo.step0 _ _ _ _ _ _ _ _ _ _ _ _ _ _ _ _ _ _ (dtrue (by omega)) (dtrue2 (by omega) (by omega)) (by rw [ea]; exact EM (by omega)) ?_ ?_
  ·rw [ea]
   simp only [muli.ok,zB,Nat.ble_eq,zD,Fw,Nat.beq_eq,Cw,Int.toNat_natCast]
   rw [hnv,hst]
   exact ⟨trivial,trivial,hn2,F4 _ _,by omega,by omega,hX.1,hX.2,trivial,trivial,hB,hk1.2⟩
  ·rw [ea,e1,Int.toNat_natCast,hnv,hst]
   exact mulo.go m2 n m ob lb cb oa la ca xs ta ys tb nx hn hn2 hA hB j (i+1) (by omega)
theorem mulo.lp {N:Nat→Prop} (n2 m2 n m ob lb cb oa la ca:Nat) (z i:Int) (xs:List Int) (ta:TypeId) (ys:List Int) (tb:TypeId) (out:List Int) (nx:Nat) {x:X} {S':St} (h:(mulo.lt n2 m2 n m ob lb cb oa la ca z i xs ta ys tb out nx).at=some (x,S')):Lq Tryz.prog N (Ay Tryz.f192 0) (mulo.st n2 m2 n m ob lb cb oa la ca z i xs ta ys tb out nx) x S':=by
 obtain ⟨h1,rfl,rfl⟩:=Ez h
 simp only [mulo.ok,zB,Nat.ble_eq,zD] at h1
 obtain ⟨h1,h2,rfl,rfl,rfl,h6,h7,h8⟩:=h1
 obtain rfl:=zE h1
 have h2:=zE h2
 have:=mulo.go (N:=N) m2 n2 m ob lb cb oa la ca xs ta ys tb nx h2 h8 h6 h7 la 0 (by omega)
 rw [FH,show nv ([]:List Int)=0 from rfl,Int.zero_mul,JL] at this
 exact this
def mulo.t:LSpec:=fun S=>match RX.nth S.tmps 1,RX.nth S.tmps 5,RX.nth S.tmps 6,RX.nth S.tmps 20,RX.nth S.tmps 21,RX.nth S.tmps 22,RX.look S.heap 0,RX.look S.heap 1,RX.look S.heap 114 with
 | .slice (some ⟨1,ob,none⟩) lb cb,.slice (some ⟨114,0,none⟩) n m,.func (.func 209) ⟨[.slice (some ⟨114,0,none⟩) n2 m2]⟩ ⟨[]⟩,.slice (some ⟨0,oa,none⟩) la ca,.int .i64 z,.int .i64 i,some (.is .u32 xs ta),some (.is .u32 ys tb),some (.is .u32 out 64)=>bif Nat.beq S.tmps.length 45 then some (mulo.lt n2 m2 n m ob lb cb oa la ca z i xs ta ys tb out S.nxt) else none
 |_,_,_,_,_,_,_,_,_=>none
theorem mulo.lok {N:Nat→Prop} :LOKn Tryz.prog N (Ay Tryz.f192 0) (mulo.t):=by
 refine FS fun S lt x S' ht hat=> ?_
 unfold mulo.t at ht
 split at ht
 ·rename_i ob lb cb n m n2 m2 oa la ca z i xs ta ys tb out h1 h5 h6 h20 h21 h22 g0 g1 g114
  cases hb:Nat.beq S.tmps.length 45 with
  |false=>rw [hb] at ht; cases ht
  | true=>
   rw [hb] at ht
   injection ht with ht
   subst ht
   have hb:=zE hb
   exact .enter (fun h=>FW hb (.cons ⟨h1,bnth h h1⟩ (.cons ⟨h5,bnth h h5⟩ (.cons ⟨h6,bnth h h6⟩ (.cons ⟨h20,bnth h h20⟩ (.cons ⟨h21,bnth h h21⟩ (.cons ⟨h22,bnth h h22⟩ .nil)))))) (.cons ⟨g0,bname h g0,rfl⟩ (.cons ⟨g1,bname h g1,rfl⟩ (.cons ⟨g114,bname h g114,rfl⟩ .nil)))) (mulo.lp _ _ _ _ _ _ _ _ _ _ _ _ _ _ _ _ _ _ hat)
 ·cases ht
theorem rmul.run (oa la ca ob lb cb:Nat) (xs ys:List Int):xfnN Tryz.prog ⟨[(205,E2.sp)],[],[]⟩ [(0,mulo.t)] 10 Tryz.f192 [.slice (some ⟨0,oa,none⟩) la ca,.slice (some ⟨1,ob,none⟩) lb cb] [.is .u32 xs 64,.is .u32 ys 64] [114]=
 bif decide (0≤i64.wrap (i64.wrap (((la:Nat):Int)+((lb:Nat):Int))+1))&&(decide (i64.wrap (i64.wrap (((la:Nat):Int)+((lb:Nat):Int))+1)≤i64.wrap (i64.wrap (((la:Nat):Int)+((lb:Nat):Int))+1))&&(decide (i64.wrap (i64.wrap (((la:Nat):Int)+((lb:Nat):Int))+1)≤140737488355328)&&decide (((3+1:Nat):Int)*i64.wrap (i64.wrap (((la:Nat):Int)+((lb:Nat):Int))+1)≤140737488355328))) then bif mulo.ok (i64.wrap (i64.wrap (((la:Nat):Int)+((lb:Nat):Int))+1)).toNat (i64.wrap (i64.wrap (((la:Nat):Int)+((lb:Nat):Int))+1)).toNat ob lb oa la (((la:Nat):Int)) 0 xs ys (List.replicate ((i64.wrap (i64.wrap (((la:Nat):Int)+((lb:Nat):Int))+1)).toNat*1) 0) then bif trim.ok 0 (i64.wrap (i64.wrap (((la:Nat):Int)+((lb:Nat):Int))+1)).toNat (i64.wrap (i64.wrap (((la:Nat):Int)+((lb:Nat):Int))+1)).toNat (dg (i64.wrap (i64.wrap (((la:Nat):Int)+((lb:Nat):Int))+1)).toNat (nv (seg xs oa la)*nv (seg ys ob lb))) then some ((Value.slice (some {block:=114,off:=0}) (tl (seg (dg (i64.wrap (i64.wrap (((la:Nat):Int)+((lb:Nat):Int))+1)).toNat (nv (seg xs oa la)*nv (seg ys ob lb))) 0 (i64.wrap (i64.wrap (((la:Nat):Int)+((lb:Nat):Int))+1)).toNat)) (i64.wrap (i64.wrap (((la:Nat):Int)+((lb:Nat):Int))+1)).toNat,[Blk.is u32 xs 64,Blk.is u32 ys 64,Blk.is u32 (dg (i64.wrap (i64.wrap (((la:Nat):Int)+((lb:Nat):Int))+1)).toNat (nv (seg xs oa la)*nv (seg ys ob lb))) 64])) else none else none else none:=by kernel_rfl
def rmul.run0:=fun oa la ca ob lb cb xs ys h0 h1 h2=>((((rmul.run oa la ca ob lb cb xs ys).ct h0).ct h1).ct h2)
def mul.sp:HSpec
 |[.slice (some ⟨0,oa,none⟩) la ca,.slice (some ⟨1,ob,none⟩) lb cb],[.is .u32 xs 64,.is .u32 ys 64]=>some (Di oa la xs&&(Di ob lb ys&&Nat.ble (la+lb+1) 4294967296),.slice (some ⟨2,0,none⟩) (tl (dg (la+lb+1) (nv (seg xs oa la)*nv (seg ys ob lb)))) (la+lb+1),[.is .u32 xs 64,.is .u32 ys 64,.is .u32 (dg (la+lb+1) (nv (seg xs oa la)*nv (seg ys ob lb))) 64])
 |_,_=>none
theorem NL.ok:SOK Tryz.prog 192 mul.sp:=by
 refine Fs (E:=⟨[(205,E2.sp)],[],[]⟩) (L:=[(0,mulo.t)]) ⟨Aa E2.ok Ac,Aq,Aj,Ap⟩ 10 Tryz.func192 (by decide) rfl (F2 rfl rfl mulo.lok) fun vs bl v bl' h=> ?_
 unfold mul.sp at h
 split at h
 ·rename_i oa la ca ob lb cb xs ys
  simp only [zS,zP,zB,Nat.ble_eq] at h
  obtain ⟨⟨hA,hB,hb⟩,rfl,rfl⟩:=h
  have e1:i64.wrap (i64.wrap (((la:Nat):Int)+((lb:Nat):Int))+1)=((la+lb+1:Nat):Int):=by rw [w64 (n:=((la:Nat):Int)+((lb:Nat):Int)) (by omega) (by omega),w64 (by omega) (by omega)]; omega
  have hr:=rmul.run0 oa la ca ob lb cb xs ys
  rw [e1,Int.toNat_natCast] at hr
  refine ⟨[114],(hr (L3 (by omega)) ?_ (G2 (Cw _ _) (by omega))).trans ?_,by simp [okV,Nat.blt],rfl,Bg rfl,List.nodup_cons.2 ⟨by simp,List.nodup_nil⟩,by simp⟩
  ·simp only [mulo.ok,zB,Nat.ble_eq,zD,Nat.beq_eq,Nat.mul_one]
   exact ⟨trivial,trivial,trivial,trivial,trivial,hA,hB,by omega⟩
  ·rw [Hd]; rfl
 ·cases h
theorem rMul.run (na:Bool) (sa:ByteArray) (nb:Bool) (sb:ByteArray):xfn Tryz.prog ⟨[(157,Valid.sp),(188,of.sp),(187,with.sp),(192,mul.sp)],[],[]⟩ [] 10 Tryz.f163 [.agg ⟨[.bool na,.string sa]⟩,.agg ⟨[.bool nb,.string sb]⟩] []=
 let c0:=dg (tl (dg (nd sa) (bv sa.data.toList))+tl (dg (nd sb) (bv sb.data.toList))+1) (nv (seg (dg (nd sa) (bv sa.data.toList)) 0 (tl (dg (nd sa) (bv sa.data.toList))))*nv (seg (dg (nd sb) (bv sb.data.toList)) 0 (tl (dg (nd sb) (bv sb.data.toList)))))
 bif !vld na sa then some ((Value.agg ⟨[Value.bool false,Value.string (⟨#[]⟩:ByteArray)]⟩,[])) else bif !vld nb sb then some ((Value.agg ⟨[Value.bool false,Value.string (⟨#[]⟩:ByteArray)]⟩,[])) else bif sa.size.ble 8589934592 then bif sb.size.ble 8589934592 then bif Di 0 (tl (dg (nd sa) (bv sa.data.toList))) (dg (nd sa) (bv sa.data.toList))&&(Di 0 (tl (dg (nd sb) (bv sb.data.toList))) (dg (nd sb) (bv sb.data.toList))&&(tl (dg (nd sa) (bv sa.data.toList))+tl (dg (nd sb) (bv sb.data.toList))+1).ble 4294967296) then bif Di 0 (tl c0) c0 then some ((Value.agg ⟨[Value.bool (!na==nb&& !nv (seg c0 0 (tl c0))==0),Value.string (str (enc (nv (seg c0 0 (tl c0)))))]⟩,[])) else none else none else none else none:=by kernel_rfl
def rMul.run0:=fun na sa nb sb h0=>((rMul.run na sa nb sb).ct h0)
def rMul.run1:=fun na sa nb sb h0 h1=>(((rMul.run na sa nb sb).cf h0).ct h1)
def rMul.run2:=fun na sa nb sb h0 h1 h2 h3 h4 h5=>(((((((rMul.run na sa nb sb).cf h0).cf h1).ct h2).ct h3).ct h4).ct h5)
theorem rSub.run (na:Bool) (sa:ByteArray) (nb:Bool) (sb:ByteArray):xfn Tryz.prog ⟨[(157,Valid.sp),(193,Neg.sp),(162,Add.sp)],[],[]⟩ [] 10 Tryz.f169 [.agg ⟨[.bool na,.string sa]⟩,.agg ⟨[.bool nb,.string sb]⟩] []=
 bif !vld na sa then some ((Value.agg ⟨[Value.bool false,Value.string (⟨#[]⟩:ByteArray)]⟩,[])) else bif !vld nb sb then some ((Value.agg ⟨[Value.bool false,Value.string (⟨#[]⟩:ByteArray)]⟩,[])) else bif szOk sa&&szOk (str (enc (((bif vld nb sb then -vl nb sb else 0).natAbs:Nat):Int))) then some ((Value.agg ⟨[Value.bool (decide ((bif vld na sa&&vld (decide ((bif vld nb sb then -vl nb sb else 0)<0)) (str (enc (((bif vld nb sb then -vl nb sb else 0).natAbs:Nat):Int))) then vl na sa+vl (decide ((bif vld nb sb then -vl nb sb else 0)<0)) (str (enc (((bif vld nb sb then -vl nb sb else 0).natAbs:Nat):Int))) else 0)<0)),Value.string (str (enc (((bif vld na sa&&vld (decide ((bif vld nb sb then -vl nb sb else 0)<0)) (str (enc (((bif vld nb sb then -vl nb sb else 0).natAbs:Nat):Int))) then vl na sa+vl (decide ((bif vld nb sb then -vl nb sb else 0)<0)) (str (enc (((bif vld nb sb then -vl nb sb else 0).natAbs:Nat):Int))) else 0).natAbs:Nat):Int)))]⟩,[])) else none:=by kernel_rfl
def rSub.run0:=fun na sa nb sb h0=>((rSub.run na sa nb sb).ct h0)
def rSub.run1:=fun na sa nb sb h0 h1=>(((rSub.run na sa nb sb).cf h0).ct h1)
def rSub.run2:=fun na sa nb sb h0 h1 h2=>((((rSub.run na sa nb sb).cf h0).cf h1).ct h2)
def szM (s:ByteArray):Bool:=Nat.ble s.size 4294967296
theorem H6 {s:ByteArray} (h:szM s=true):szOk s=true:=by
 simp only [szM,szOk,Nat.ble_eq] at h ⊢
 omega
theorem QC (n:Bool) (s:ByteArray):((vl n s).natAbs:Int)=bv s.data.toList:=by
 have hb:=EV s.data.toList
 unfold vl
 cases n<;>simp only [cond_true,cond_false]<;>omega
theorem enc_vl {n:Bool} {s:ByteArray} (h:vld n s=true):str (enc ((vl n s).natAbs:Int))=s:=by
 rw [QC,Hn (IU h)]
 rfl
theorem PJ {n:Bool} {s:ByteArray} (h:vld n s=true):str (enc ((-vl n s).natAbs:Int))=s:=by
 rw [show ((-vl n s).natAbs:Int)=((vl n s).natAbs:Int) by omega,enc_vl h]
def Mul.sp:HSpec
 |[.agg ⟨[.bool na,.string sa]⟩,.agg ⟨[.bool nb,.string sb]⟩],[]=>some (szM sa&&szM sb,iI (bif vld na sa&&vld nb sb then vl na sa*vl nb sb else 0),[])
 |_,_=>none
def Sub.sp:HSpec
 |[.agg ⟨[.bool na,.string sa]⟩,.agg ⟨[.bool nb,.string sb]⟩],[]=>some (szOk sa&&szOk sb,iI (bif vld na sa&&vld nb sb then vl na sa-vl nb sb else 0),[])
 |_,_=>none
theorem Mul.ok:SOK Tryz.prog 163 Mul.sp:=by
 refine Dl (E:=⟨[(157,Valid.sp),(188,of.sp),(187,with.sp),(192,mul.sp)],[],[]⟩) (L:=[]) ⟨Aa Valid.ok (Aa of.ok (Aa with.ok (Aa NL.ok Ac))),Aq,Aj,Ap⟩ 10 Tryz.func163 (by decide) rfl Bf fun vs bl v bl' h=> ?_
 unfold Mul.sp at h
 split at h
 ·rename_i na sa nb sb
  simp only [zS,zP,zB] at h
  obtain ⟨⟨h1,h2⟩,rfl,rfl⟩:=h
  refine ⟨?_,by simp [okV],clo_spec 8 _ rfl,Bg rfl⟩
  cases va:vld na sa with
  |false=>exact (rMul.run0 na sa nb sb (Ee va)).trans (by simp only [Bool.false_and,cond_false]; rw [F9])
  |true=>
  cases vb:vld nb sb with
  |false=>exact (rMul.run1 na sa nb sb (Dh va) (Ee vb)).trans (by simp only [Bool.and_false,cond_false]; rw [F9])
  |true=>
  have hsa:=zL h1
  have hsb:=zL h2
  have na_:nd sa≤1073741825:=by unfold nd; omega
  have nb_:nd sb≤1073741825:=by unfold nd; omega
  have a0:=EV sa.data.toList
  have b0:=EV sb.data.toList
  have a1:=FM sa
  have b1:=FM sb
  have oa:=okc (n:=nd sa) (bv sa.data.toList) (by omega)
  have ob:=okc (n:=nd sb) (bv sb.data.toList) (by omega)
  have ta:=Fz (dg (nd sa) (bv sa.data.toList))
  have tb:=Fz (dg (nd sb) (bv sb.data.toList))
  rw [Cw] at ta tb
  refine (rMul.run2 na sa nb sb (Dh va) (Dh vb) (H6 h1) (H6 h2) (by rw [oa,ob]; simp only [Bool.true_and,Nat.ble_eq]; omega) (okc _ (by omega))).trans ?_
  have q:=Qf a0 (Gd a0 a1) b0 (Gd b0 b1)
  have q2:=Fh (show tl (dg (nd sa) (bv sa.data.toList))+tl (dg (nd sb) (bv sb.data.toList))≤tl (dg (nd sa) (bv sa.data.toList))+tl (dg (nd sb) (bv sb.data.toList))+1 by omega)
  have p0:=Int.mul_nonneg a0 b0
  show some (iv (!(na==nb)) _,_)=_
  rw [nvc a0 a1,nvc b0 b1,nvc p0 (by omega),GS _ p0]
  unfold vl
  simp only [Bool.and_true,cond_true]
  cases na<;>cases nb<;>simp only [cond_true,cond_false,Int.neg_mul,Int.mul_neg,Int.neg_neg]<;>rfl
 ·cases h
theorem Sub.ok:SOK Tryz.prog 169 Sub.sp:=by
 refine Dl (E:=⟨[(157,Valid.sp),(193,Neg.sp),(162,Add.sp)],[],[]⟩) (L:=[]) ⟨Aa Valid.ok (Aa Neg.ok (Aa Add.ok Ac)),Aq,Aj,Ap⟩ 10 Tryz.func169 (by decide) rfl Bf fun vs bl v bl' h=> ?_
 unfold Sub.sp at h
 split at h
 ·rename_i na sa nb sb
  simp only [zS,zP,zB] at h
  obtain ⟨⟨h1,h2⟩,rfl,rfl⟩:=h
  refine ⟨?_,by simp [okV],clo_spec 8 _ rfl,Bg rfl⟩
  cases va:vld na sa with
  |false=>exact (rSub.run0 na sa nb sb (Ee va)).trans (by simp only [Bool.false_and,cond_false]; rw [F9])
  |true=>
  cases vb:vld nb sb with
  |false=>exact (rSub.run1 na sa nb sb (Dh va) (Ee vb)).trans (by simp only [Bool.and_false,cond_false]; rw [F9])
  |true=>
  have hr:=rSub.run2 na sa nb sb (Dh va) (Dh vb)
  simp only [va,vb,cond_true,PJ vb,HY,Js,Bool.and_true] at hr
  rw [h1,h2] at hr
  have hv:=HY (-vl nb sb)
  have hw:=Js (-vl nb sb)
  rw [PJ vb] at hv hw
  simp only [hv,hw,cond_true] at hr
  refine (hr rfl).trans ?_
  simp only [Bool.and_true,cond_true]
  rfl
 ·cases h
section
variable {N:Nat→Prop} {xe:X} {Se:St} (oa la ca:Nat) (r i:Int) (xs:List Int) (ta:TypeId) (nx:Nat)
abbrev single.st:St:=⟨gbuild [(0,.slice (some ⟨0,oa,none⟩) la ca),(3,.int .u64 r),(4,.int .i64 i)] 0 21,[(0,.is .u32 xs ta)],nx⟩
abbrev single.lk:=RX.lk [0,3,4] [0]
theorem single.rnd:rd Tryz.prog ⟨[],[],[]⟩ [] 3 (Ay Tryz.f204 0) (single.st oa la ca r i xs ta nx) 21 [0,3,4] [0]=
 bif decide (i≥0) then bif decide (0≤i)&&decide (i<((la:Nat):Int)) then bif (oa+i.toNat*1).blt xs.length then single.lk .normal (single.st oa la ca (E6 BinOp.or u64 (u64.wrap (r*2^min (Int.toNat 32) u64.bits)) (u64.wrap (xs.getD (oa+i.toNat*1) 0))) (i64.wrap (i-1)) xs ta nx) else none else none else single.lk (.exit 0) (single.st oa la ca r i xs ta nx):=by kernel_rfl
def single.step0:=fun h0 h1 h2 (ih:Lq Tryz.prog N (Ay Tryz.f204 0) _ xe Se)=>Lq.toK (f:=3) ⟨Ac,Aq,Aj,Ap⟩ Bs ((((single.rnd oa la ca r i xs ta nx).ct h0).ct h1).ct h2) rfl rfl ih
def single.stop1:=fun h0=>Lq.endK (N:=N) (f:=3) ⟨Ac,Aq,Aj,Ap⟩ Bs ((single.rnd oa la ca r i xs ta nx).cf h0) (fun q=>by cases q) rfl rfl
end
section
variable {N:Nat→Prop} {xe:X} {Se:St} (oa la ca:Nat) (dv:Int) (n m:Nat) (r i:Int) (xs:List Int) (ta:TypeId) (out:List Int) (tc:TypeId) (nx:Nat)
abbrev small.st:St:=⟨gbuild [(0,.slice (some ⟨0,oa,none⟩) la ca),(1,.int .u32 dv),(6,.slice (some ⟨65,0,none⟩) n m),(7,.int .u32 r),(8,.int .i64 i)] 0 35,[(0,.is .u32 xs ta),(65,.is .u32 out tc)],nx⟩
abbrev small.lk:=RX.lk [0,1,6,7,8] [0,65]
theorem small.rnd:rd Tryz.prog ⟨[],[(227,Tryz.f227)],[]⟩ [] 5 (Ay Tryz.f215 0) (small.st oa la ca dv n m r i xs ta out tc nx) 35 [0,1,6,7,8] [0,65]=
 bif decide (i≥0) then bif decide (0≤i)&&decide (i<((la:Nat):Int)) then bif (oa+i.toNat*1).blt xs.length then bif dv !=0 then bif decide (dv≤r) then none else bif u64.wrap dv !=0 then bif u64.wrap dv !=0 then bif decide (0≤i)&&decide (i<((n:Nat):Int)) then bif (0+i.toNat*1).blt out.length then small.lk .normal (small.st oa la ca dv n m (u32.wrap ((E6 BinOp.or u64 (u64.wrap (u64.wrap r*2^min (Int.toNat 32) u64.bits)) (u64.wrap (xs.getD (oa+i.toNat*1) 0))).tmod (u64.wrap dv))) (i64.wrap (i-1)) xs ta (out.set (0+i.toNat*1) (u32.wrap (u64.wrap ((E6 BinOp.or u64 (u64.wrap (u64.wrap r*2^min (Int.toNat 32) u64.bits)) (u64.wrap (xs.getD (oa+i.toNat*1) 0))).tdiv (u64.wrap dv))))) tc nx) else none else none else none else none else bif u64.wrap dv !=0 then bif u64.wrap dv !=0 then bif decide (0≤i)&&decide (i<((n:Nat):Int)) then bif (0+i.toNat*1).blt out.length then small.lk .normal (small.st oa la ca dv n m (u32.wrap ((E6 BinOp.or u64 (u64.wrap (u64.wrap r*2^min (Int.toNat 32) u64.bits)) (u64.wrap (xs.getD (oa+i.toNat*1) 0))).tmod (u64.wrap dv))) (i64.wrap (i-1)) xs ta (out.set (0+i.toNat*1) (u32.wrap (u64.wrap ((E6 BinOp.or u64 (u64.wrap (u64.wrap r*2^min (Int.toNat 32) u64.bits)) (u64.wrap (xs.getD (oa+i.toNat*1) 0))).tdiv (u64.wrap dv))))) tc nx) else none else none else none else none else none else none else small.lk (.exit 0) (small.st oa la ca dv n m r i xs ta out tc nx):=by kernel_rfl
def small.step0:=fun h0 h1 h2 h3 h4 h5 h6 h7 h8 (ih:Lq Tryz.prog N (Ay Tryz.f215 0) _ xe Se)=>Lq.toK (f:=5) ⟨Ac,Bu ⟨Tryz.func227,by decide,rfl⟩ Aq,Aj,Ap⟩ Bs ((((((((((small.rnd oa la ca dv n m r i xs ta out tc nx).ct h0).ct h1).ct h2).ct h3).cf h4).ct h5).ct h6).ct h7).ct h8) rfl rfl ih
def small.stop2:=fun h0=>Lq.endK (N:=N) (f:=5) ⟨Ac,Bu ⟨Tryz.func227,by decide,rfl⟩ Aq,Aj,Ap⟩ Bs ((small.rnd oa la ca dv n m r i xs ta out tc nx).cf h0) (fun q=>by cases q) rfl rfl
end
def tw (xs:List Int) (o l k:Nat):Int:=nv (seg xs (o+k) (l-k))
theorem N1 {xs:List Int} {o l:Nat} (h:o<xs.length):seg xs o (l+1)=xs.getD o 0::seg xs (o+1) l:=by
 unfold seg
 rw [List.drop_eq_getElem_cons h,List.take_succ_cons,List.getD_eq_getElem?_getD,List.getElem?_eq_getElem h]
 rfl
theorem QE (xs:List Int) (o l:Nat):tw xs o l l=0:=by unfold tw; rw [Nat.sub_self,FH]; rfl
theorem OZ {xs:List Int} {o l k:Nat} (hk:k<l) (h:o+l≤xs.length):tw xs o l k=xs.getD (o+k) 0+4294967296*tw xs o l (k+1):=by
 unfold tw
 rw [show l-k=(l-(k+1))+1 by omega,N1 (by omega)]
 rfl
theorem tw_zero (xs:List Int) (o l:Nat):tw xs o l 0=nv (seg xs o l):=rfl
theorem Li {xs:List Int} (hd:dig xs) (o l k:Nat):0≤tw xs o l k:=Dx (EB hd _ _)
theorem tw_lt {xs:List Int} (hd:dig xs) {o l k:Nat} (hk:k≤l) (h:o+l≤xs.length):tw xs o l k<pw (l-k):=by
 have:=FF (EB hd (o+k) (l-k))
 rwa [EL (by omega)] at this
theorem ND {x r:Int} (x0:0≤x) (x1:x<4294967296) (r0:0≤r) (r1:r<4294967296):E6 .or .u64 (u64.wrap (r*2^min (Int.toNat 32) u64.bits)) (u64.wrap x)=x+4294967296*r:=by
 have h2:((2:Int)^min (Int.toNat 32) u64.bits)=4294967296:=rfl
 rw [h2,u64of (n:=x) x0 (by omega),u64of (n:=r*4294967296) (by omega) (by omega),or_comm]
 have:=or64 (a:=x) (c:=r) (i:=32) x0 x1 r0 (by omega)
 rw [show ((2^32:Nat):Int)=4294967296 from rfl] at this
 rw [this,Int.mul_comm]
def single.ok (oa la:Nat) (r i:Int) (xs:List Int):Bool:=decide (r=0)&&(decide (i+1=(la:Int))&&(Di oa la xs&&Nat.ble la 2))
def single.lt (oa la ca:Nat) (r i:Int) (xs:List Int) (ta:TypeId) (nx:Nat):LT:= .got (single.ok oa la r i xs) (.exit 0) (single.st oa la ca (nv (seg xs oa la)) (-1) xs ta nx)
theorem single.go {N:Nat→Prop} (oa la ca:Nat) (xs:List Int) (ta:TypeId) (nx:Nat) (h1:oa+la≤xs.length) (hd:dig xs) (h2:la≤2):∀(k:Nat),k≤la→Lq Tryz.prog N (Ay Tryz.f204 0) (single.st oa la ca (tw xs oa la k) ((k:Int)-1) xs ta nx) (.exit 0) (single.st oa la ca (nv (seg xs oa la)) (-1) xs ta nx)
 |0,_=>single.stop1 _ _ _ _ _ _ _ _ rfl
 | k+1,hk=>by
  have e0:(((k+1:Nat):Int)-1)=(k:Int):=by omega
  have e1:i64.wrap ((k:Int)-1)=(k:Int)-1:=w64 (by omega) (by omega)
  have ea:oa+((k:Int)).toNat*1=oa+k:=by simp
  have hX:=EF hd (oa+k)
  have t0:=Li hd oa la (k+1)
  have t1:=tw_lt hd hk h1
  have t2:pw (la-(k+1))≤4294967296:=Int.le_trans (Fh (show la-(k+1)≤1 by omega)) (by decide)
  rw [e0]
  refine single.step0 _ _ _ _ _ _ _ _ (dtrue (by omega)) (dtrue2 (by omega) (by omega)) (by rw [ea]; exact EM (by omega)) ?_
  rw [ea,e1,ND hX.1 hX.2 t0 (by omega),←OZ (by omega) h1]
  exact single.go oa la ca xs ta nx h1 hd h2 k (by omega)
theorem single.lp {N:Nat→Prop} (oa la ca:Nat) (r i:Int) (xs:List Int) (ta:TypeId) (nx:Nat) {x:X} {S':St} (h:(single.lt oa la ca r i xs ta nx).at=some (x,S')):Lq Tryz.prog N (Ay Tryz.f204 0) (single.st oa la ca r i xs ta nx) x S':=by
 obtain ⟨h1,rfl,rfl⟩:=Ez h
 simp only [single.ok,zB,Nat.ble_eq,zD,Dy] at h1
 obtain ⟨rfl,h2,⟨h3,h4,h5⟩,h6⟩:=h1
 obtain rfl:i=(la:Int)-1:=by omega
 have:=single.go (N:=N) oa la ca xs ta nx h3 h5 h6 la (Nat.le_refl _)
 rw [QE] at this
 exact this
def single.t:LSpec:=fun S=>match RX.nth S.tmps 0,RX.nth S.tmps 3,RX.nth S.tmps 4,RX.look S.heap 0 with
 | .slice (some ⟨0,oa,none⟩) la ca,.int .u64 r,.int .i64 i,some (.is .u32 xs ta)=>bif Nat.beq S.tmps.length 21 then some (single.lt oa la ca r i xs ta S.nxt) else none
 |_,_,_,_=>none
theorem single.lok {N:Nat→Prop} :LOKn Tryz.prog N (Ay Tryz.f204 0) (single.t):=by
 refine FS fun S lt x S' ht hat=> ?_
 unfold single.t at ht
 split at ht
 ·rename_i oa la ca r i xs ta h0 h3 h4 g0
  cases hb:Nat.beq S.tmps.length 21 with
  |false=>rw [hb] at ht; cases ht
  | true=>
   rw [hb] at ht
   injection ht with ht
   subst ht
   have hb:=zE hb
   exact .enter (fun h=>FW hb (.cons ⟨h0,bnth h h0⟩ (.cons ⟨h3,bnth h h3⟩ (.cons ⟨h4,bnth h h4⟩ .nil))) (.cons ⟨g0,bname h g0,rfl⟩ .nil)) (single.lp _ _ _ _ _ _ _ _ hat)
 ·cases ht
def small.ok (oa la:Nat) (dv:Int) (n:Nat) (r i:Int) (xs out:List Int):Bool:=decide (r=0)&&(decide (i+1=(la:Int))&&(Nat.beq n la&&(decide (out=List.replicate n 0)&&(Di oa la xs&&(decide (0<dv)&&decide (dv<4294967296))))))
def small.lt (oa la ca:Nat) (dv:Int) (n m:Nat) (r i:Int) (xs:List Int) (ta:TypeId) (out:List Int) (tc:TypeId) (nx:Nat):LT:= .got (small.ok oa la dv n r i xs out) (.exit 0) (small.st oa la ca dv n m (nv (seg xs oa la)%dv) (-1) xs ta (dg la (nv (seg xs oa la)/dv)) tc nx)
theorem Ot (k:Nat) (q:Int) (L:List Int):(List.replicate (k+1) 0++L).set k q=List.replicate k 0++q::L:=by
 rw [List.replicate_succ',List.append_assoc,List.set_append_right _ _ (by simp),List.length_replicate,Nat.sub_self]
 rfl
theorem small.go {N:Nat→Prop} (oa la ca:Nat) (dv:Int) (m:Nat) (xs:List Int) (ta tc:TypeId) (nx:Nat) (h1:oa+la≤xs.length) (h2:la≤4294967296) (hd:dig xs) (d0:0<dv) (d1:dv<4294967296):∀(k:Nat),k≤la→Lq Tryz.prog N (Ay Tryz.f215 0) (small.st oa la ca dv la m (tw xs oa la k%dv) ((k:Int)-1) xs ta (List.replicate k 0++dg (la-k) (tw xs oa la k/dv)) tc nx) (.exit 0) (small.st oa la ca dv la m (nv (seg xs oa la)%dv) (-1) xs ta (dg la (nv (seg xs oa la)/dv)) tc nx)
 | 0,_=>by
  rw [tw_zero]
  exact small.stop2 _ _ _ _ _ _ _ _ _ _ _ _ _ rfl
 | k +1,hk=>by
  have e0:(((k+1:Nat):Int)-1)=(k:Int):=by omega
  have e1:i64.wrap ((k:Int)-1)=(k:Int)-1:=w64 (by omega) (by omega)
  have ea:oa+((k:Int)).toNat*1=oa+k:=by simp
  have ez:0+((k:Int)).toNat*1=k:=by simp
  have hX:=EF hd (oa+k)
  have t0:=Li hd oa la (k+1)
  have ts:=OZ (xs:=xs) (o:=oa) (l:=la) (k:=k) (by omega) h1
  have r0:=Int.emod_nonneg (tw xs oa la (k+1)) (show dv≠0 by omega)
  have r1:=Int.emod_lt_of_pos (tw xs oa la (k+1)) d0
  have q0:0≤tw xs oa la (k+1)/dv:=Int.ediv_nonneg t0 (by omega)
  have hsp:dv*(tw xs oa la (k+1)/dv)+tw xs oa la (k+1)%dv=tw xs oa la (k+1):=Int.mul_ediv_add_emod _ _
  have ih:=small.go (N:=N) oa la ca dv m xs ta tc nx h1 h2 hd d0 d1 k (by omega)
  rw [show la-k=la-(k+1)+1 by omega] at ih
  generalize hq:tw xs oa la (k+1)/dv=q at*
  generalize hr:tw xs oa la (k+1)%dv=r at*
  generalize hx:xs.getD (oa+k) 0=u at*
  have hT:tw xs oa la k=(u+4294967296*r)+dv*(4294967296*q):=by rw [ts,←hsp,Int.mul_add,Int.mul_left_comm]; omega
  have hTd:tw xs oa la k/dv=(u+4294967296*r)/dv+4294967296*q:=by rw [hT]; exact Int.add_mul_ediv_left _ _ (by omega)
  have hTm:tw xs oa la k%dv=(u+4294967296*r)%dv:=by rw [hT]; exact Int.add_mul_emod_self_left _ _ _
  have z0:0≤(u+4294967296*r)/dv:=Int.ediv_nonneg (by omega) (by omega)
  have z1:(u+4294967296*r)/dv<4294967296:=Int.ediv_lt_of_lt_mul d0 (by
   have:4294967296*(r+1)≤4294967296*dv:=Int.mul_le_mul_of_nonneg_left (by omega) (by omega)
   omega)
  have m0:=Int.emod_nonneg (u+4294967296*r) (show dv≠0 by omega)
  have m1:=Int.emod_lt_of_pos (u+4294967296*r) d0
  have ed:u64.wrap dv=dv:=u64of (by omega) (by omega)
  have er:u64.wrap r=r:=u64of (by omega) (by omega)
  rw [e0]
  refine small.step0 _ _ _ _ _ _ _ _ _ _ _ _ _ (dtrue (by omega)) (dtrue2 (by omega) (by omega)) (by rw [ea]; exact EM (by omega)) (E8 (by omega)) (dfalse (by omega)) (by rw [ed]; exact E8 (by omega)) (by rw [ed]; exact E8 (by omega)) (dtrue2 (by omega) (by omega)) (by rw [ez]; simp only [List.length_append,List.length_replicate,Cw]; exact EM (by omega)) ?_
  rw [ea,ez,e1,ed,er,hx,ND hX.1 hX.2 r0 (by omega),Int.tdiv_eq_ediv_of_nonneg (by omega),Int.tmod_eq_emod_of_nonneg (by omega),u64of (n:=(u+4294967296*r)/dv) z0 (by omega),u32of z0 z1,u32of m0 (by omega),Ot]
  rw [hTm,hTd] at ih
  have hdg:dg (la-(k+1)+1) ((u+4294967296*r)/dv+4294967296*q)=(u+4294967296*r)/dv::dg (la-(k+1)) q:=by
   have y1:((u+4294967296*r)/dv+4294967296*q)%4294967296=(u+4294967296*r)/dv:=by omega
   have y2:((u+4294967296*r)/dv+4294967296*q)/4294967296=q:=by omega
   simp only [dg,y1,y2]
  rw [hdg] at ih
  exact ih
theorem small.lp {N:Nat→Prop} (oa la ca:Nat) (dv:Int) (n m:Nat) (r i:Int) (xs:List Int) (ta:TypeId) (out:List Int) (tc:TypeId) (nx:Nat) {x:X} {S':St} (h:(small.lt oa la ca dv n m r i xs ta out tc nx).at=some (x,S')):Lq Tryz.prog N (Ay Tryz.f215 0) (small.st oa la ca dv n m r i xs ta out tc nx) x S':=by
 obtain ⟨h1,rfl,rfl⟩:=Ez h
 simp only [small.ok,zB,zD,Dy] at h1
 obtain ⟨rfl,h2,h3,rfl,⟨h4,h5,h6⟩,h7,h8⟩:=h1
 obtain rfl:=zE h3
 obtain rfl:i=(n:Int)-1:=by omega
 have:=small.go (N:=N) oa n ca dv m xs ta tc nx h4 h5 h6 h7 h8 n (Nat.le_refl _)
 rw [QE,Nat.sub_self,Int.zero_ediv,Int.zero_emod] at this
 simp only [dg,List.append_nil] at this
 exact this
def small.t:LSpec:=fun S=>match RX.nth S.tmps 0,RX.nth S.tmps 1,RX.nth S.tmps 6,RX.nth S.tmps 7,RX.nth S.tmps 8,RX.look S.heap 0,RX.look S.heap 65 with
 | .slice (some ⟨0,oa,none⟩) la ca,.int .u32 dv,.slice (some ⟨65,0,none⟩) n m,.int .u32 r,.int .i64 i,some (.is .u32 xs ta),some (.is .u32 out tc)=>bif Nat.beq S.tmps.length 35 then some (small.lt oa la ca dv n m r i xs ta out tc S.nxt) else none
 |_,_,_,_,_,_,_=>none
theorem small.lok {N:Nat→Prop} :LOKn Tryz.prog N (Ay Tryz.f215 0) (small.t):=by
 refine FS fun S lt x S' ht hat=> ?_
 unfold small.t at ht
 split at ht
 ·rename_i oa la ca dv n m r i xs ta out tc h0 h1 h6 h7 h8 g0 g65
  cases hb:Nat.beq S.tmps.length 35 with
  |false=>rw [hb] at ht; cases ht
  | true=>
   rw [hb] at ht
   injection ht with ht
   subst ht
   have hb:=zE hb
   exact .enter (fun h=>FW hb (.cons ⟨h0,bnth h h0⟩ (.cons ⟨h1,bnth h h1⟩ (.cons ⟨h6,bnth h h6⟩ (.cons ⟨h7,bnth h h7⟩ (.cons ⟨h8,bnth h h8⟩ .nil))))) (.cons ⟨g0,bname h g0,rfl⟩ (.cons ⟨g65,bname h g65,rfl⟩ .nil))) (small.lp _ _ _ _ _ _ _ _ _ _ _ _ _ hat)
 ·cases ht
section
variable {N:Nat→Prop} {xe:X} {Se:St} (k:Int) (n m oa la ca:Nat) (z i:Int) (xs:List Int) (ta:TypeId) (out:List Int) (tc:TypeId) (nx:Nat)
abbrev shift.st:St:=⟨gbuild [(1,.int .i64 k),(5,.slice (some ⟨65,0,none⟩) n m),(12,.slice (some ⟨0,oa,none⟩) la ca),(13,.int .i64 z),(14,.int .i64 i)] 0 40,[(0,.is .u32 xs ta),(65,.is .u32 out tc)],nx⟩
abbrev shift.lk:=RX.lk [1,5,12,13,14] [0,65]
theorem shift.rnd:rd Tryz.prog ⟨[],[],[]⟩ [] 3 (Ay Tryz.f217 0) (shift.st k n m oa la ca z i xs ta out tc nx) 40 [1,5,12,13,14] [0,65]=
 bif decide (i<z) then bif decide (0≤i)&&decide (i<((la:Nat):Int)) then bif (oa+i.toNat*1).blt xs.length then bif decide (0≤i)&&decide (i<((n:Nat):Int)) then bif (0+i.toNat*1).blt out.length then bif decide (0≤k) then bif decide (0≤i)&&decide (i<((n:Nat):Int)) then bif (0+i.toNat*1).blt out.length then bif decide (0≤k) then bif decide (0≤i64.wrap (i+1))&&decide (i64.wrap (i+1)<((n:Nat):Int)) then bif (0+(i64.wrap (i+1)).toNat*1).blt (out.set (0+i.toNat*1) (E6 BinOp.or u32 (out.getD (0+i.toNat*1) 0) (u32.wrap (xs.getD (oa+i.toNat*1) 0*2^min k.toNat u32.bits)))).length then shift.lk .normal (shift.st k n m oa la ca z (i64.wrap (i+1)) xs ta ((out.set (0+i.toNat*1) (E6 BinOp.or u32 (out.getD (0+i.toNat*1) 0) (u32.wrap (xs.getD (oa+i.toNat*1) 0*2^min k.toNat u32.bits)))).set (0+(i64.wrap (i+1)).toNat*1) (u32.wrap ((u64.wrap (u64.wrap (xs.getD (oa+i.toNat*1) 0)*2^min k.toNat u64.bits)).fdiv (2^min (Int.toNat 32) u64.bits)))) tc nx) else none else none else none else none else none else none else none else none else none else none else shift.lk (.exit 0) (shift.st k n m oa la ca z i xs ta out tc nx):=by kernel_rfl
def shift.step0:=fun h0 h1 h2 h3 h4 h5 h6 h7 h8 h9 h10 (ih:Lq Tryz.prog N (Ay Tryz.f217 0) _ xe Se)=>Lq.toK (f:=3) ⟨Ac,Aq,Aj,Ap⟩ Bs ((((((((((((shift.rnd k n m oa la ca z i xs ta out tc nx).ct h0).ct h1).ct h2).ct h3).ct h4).ct h5).ct h6).ct h7).ct h8).ct h9).ct h10) rfl rfl ih
def shift.stop1:=fun h0=>Lq.endK (N:=N) (f:=3) ⟨Ac,Aq,Aj,Ap⟩ Bs ((shift.rnd k n m oa la ca z i xs ta out tc nx).cf h0) (fun q=>by cases q) rfl rfl
end
def p2 (k:Nat):Int:=((2^k:Nat):Int)
theorem IZ (k:Nat):0<p2 k:=by have:=Nat.two_pow_pos k; simp only [p2]; omega
theorem p2_le {k:Nat} (h:k≤31):p2 k≤2147483648:=by
 have:=Nat.pow_le_pow_right (show 0<2 by decide) h
 simp only [p2]; omega
theorem Kx {k:Nat} (h:k≤32):p2 k*p2 (32-k)=4294967296:=by
 simp only [p2]
 rw [←Int.natCast_mul,←Nat.pow_add,show k+(32-k)=32 by omega]
 rfl
def shift.ok (k:Int) (n oa la:Nat) (z i:Int) (xs out:List Int):Bool:=decide (0≤k)&&(decide (k≤31)&&(Nat.beq n (la+1)&&(decide (z=(la:Int))&&(decide (i=0)&&(decide (out=List.replicate n 0)&&Di oa la xs)))))
def shift.lt (k:Int) (n m oa la ca:Nat) (z i:Int) (xs:List Int) (ta:TypeId) (out:List Int) (tc:TypeId) (nx:Nat):LT:= .got (shift.ok k n oa la z i xs out) (.exit 0) (shift.st k n m oa la ca z z xs ta (dg (la+1) (nv (seg xs oa la)*p2 k.toNat)) tc nx)
theorem shl_or {h x:Int} {k:Nat} (hk:k≤31) (h0:0≤h) (h1:h<p2 k) (x0:0≤x) (x1:x<4294967296):E6 .or .u32 h (u32.wrap (x*p2 k))=(h+x*p2 k)%4294967296∧(h+x*p2 k)/4294967296=x*p2 k/4294967296:=by
 have hp:=IZ k
 have hs:=Kx (k:=k) (by omega)
 have hq:=IZ (32-k)
 have e1:x*p2 k%4294967296=x%p2 (32-k)*p2 k:=by
  rw [←hs,Int.mul_comm x,Int.mul_emod_mul_of_pos _ _ hp,Int.mul_comm]
 have m0:=Int.emod_nonneg x (show p2 (32-k)≠0 by omega)
 have m1:=Int.emod_lt_of_pos x hq
 have hle:(x%p2 (32-k)+1)*p2 k≤p2 (32-k)*p2 k:=Int.mul_le_mul_of_nonneg_right (by omega) (by omega)
 rw [Int.add_mul,Int.one_mul,Int.mul_comm (p2 (32-k)),hs] at hle
 have hb:h+x%p2 (32-k)*p2 k<4294967296:=by omega
 have hn:0≤x%p2 (32-k)*p2 k:=Int.mul_nonneg m0 (by omega)
 have hxd:=Int.mul_ediv_add_emod (x*p2 k) 4294967296
 rw [wu32,e1]
 refine ⟨?_,by rw [e1] at hxd; omega⟩
 have:=or32 (a:=h) (c:=x%p2 (32-k)) (i:=k) h0 h1 m0 hb
 rw [show ((2^k:Nat):Int)=p2 k from rfl] at this
 rw [this]
 rw [e1] at hxd
 omega
theorem ap_get {k n:Nat} (h:k<n) (v:Int):(ap (k+1) v n).getD k 0=v/pw k%4294967296:=by
 unfold ap
 rw [JM,List.append_assoc,List.getD_eq_getElem?_getD,List.getElem?_append_right (by rw [Cw]; omega),Cw,Nat.sub_self]
 rfl
theorem shift.go {N:Nat→Prop} (k:Nat) (m oa la ca:Nat) (xs:List Int) (ta tc:TypeId) (nx:Nat) (hk:k≤31) (h1:oa+la≤xs.length) (h2:la≤4294967296) (hd:dig xs):∀(j i:Nat),i+j=la→Lq Tryz.prog N (Ay Tryz.f217 0) (shift.st (k:Int) (la+1) m oa la ca (la:Int) (i:Int) xs ta (ap (i+1) (nv (seg xs oa i)*p2 k) (la+1)) tc nx) (.exit 0) (shift.st (k:Int) (la+1) m oa la ca (la:Int) (la:Int) xs ta (dg (la+1) (nv (seg xs oa la)*p2 k)) tc nx)
 | 0,i,h=>by
  obtain rfl:i=la:=by omega
  rw [Mp]
  exact shift.stop1 _ _ _ _ _ _ _ _ _ _ _ _ _ (dfalse (by omega))
 | j +1,i,h=>by
  have e1:i64.wrap ((i:Int)+1)=((i+1:Nat):Int):=by rw [w64 (by omega) (by omega)]; omega
  have ea:oa+((i:Int)).toNat*1=oa+i:=by simp
  have ez:0+((i:Int)).toNat*1=i:=by simp
  have ey:0+(((i+1:Nat):Int)).toNat*1=i+1:=by simp
  have hX:=EF hd (oa+i)
  have hp:=IZ k
  have hple:=p2_le hk
  have v0:=Dx (EB hd oa i)
  have v1:=FF (EB hd oa i)
  rw [EL (by omega)] at v1
  have hpw:=Ep i
  have hh0:0≤nv (seg xs oa i)*p2 k/pw i:=Int.ediv_nonneg (Int.mul_nonneg v0 (by omega)) (by omega)
  have hh1:nv (seg xs oa i)*p2 k/pw i<p2 k:=Int.ediv_lt_of_lt_mul hpw (by rw [Int.mul_comm]; exact Int.mul_lt_mul_of_pos_left v1 hp)
  have hst:nv (seg xs oa (i+1))*p2 k=nv (seg xs oa i)*p2 k+pw i*(xs.getD (oa+i) 0*p2 k):=by rw [EU (o:=oa) (l:=i) (by omega),Int.add_mul,Int.mul_assoc]
  have hget:=ap_get (k:=i) (n:=la+1) (by omega) (nv (seg xs oa i)*p2 k)
  rw [Int.emod_eq_of_lt hh0 (by omega)] at hget
  have hlen:=Fc (k:=i+1) (n:=la+1) (nv (seg xs oa i)*p2 k) (by omega)
  obtain ⟨so,sd⟩:=shl_or (x:=xs.getD (oa+i) 0) hk hh0 hh1 hX.1 hX.2
  have emin:min ((k:Int)).toNat u32.bits=k:=by rw [Int.toNat_natCast]; exact Nat.min_eq_left (by show k≤32; omega)
  have emin2:min ((k:Int)).toNat u64.bits=k:=by rw [Int.toNat_natCast]; exact Nat.min_eq_left (by show k≤64; omega)
  have epow:((2:Int)^k)=p2 k:=(Int.natCast_pow 2 k).symm
  have hmul:xs.getD (oa+i) 0*p2 k≤4294967295*2147483648:=Int.mul_le_mul (by omega) hple (by omega) (by omega)
  have hmul0:0≤xs.getD (oa+i) 0*p2 k:=Int.mul_nonneg hX.1 (by omega)
  have c3:(decide (0≤(i:Int))&&decide ((i:Int)<((la+1:Nat):Int)))=true:=dtrue2 (by omega) (by omega)
  have c4:(0+((i:Int)).toNat*1).blt (ap (i+1) (nv (seg xs oa i)*p2 k) (la+1)).length=true:=by rw [ez,hlen]; exact EM (by omega)
  refine shift.step0 _ _ _ _ _ _ _ _ _ _ _ _ _ (dtrue (by omega)) (dtrue2 (by omega) (by omega)) (by rw [ea]; exact EM (by omega)) c3 c4 (dtrue (by omega)) c3 c4 (dtrue (by omega)) (by rw [e1]; exact dtrue2 (by omega) (by omega)) (by rw [e1,ey,List.length_set,hlen]; exact EM (by omega)) ?_
  rw [ea,ez,e1,ey,emin,emin2,epow,hget,so,u64of (n:=xs.getD (oa+i) 0) hX.1 (by omega),u64of (n:=xs.getD (oa+i) 0*p2 k) hmul0 (by omega),Int.fdiv_eq_ediv_of_nonneg _ (by decide),show ((2:Int)^min (Int.toNat 32) u64.bits)=4294967296 from rfl,u32of (n:=xs.getD (oa+i) 0*p2 k/4294967296) (by omega) (by omega)]
  have ih:=shift.go (N:=N) k m oa la ca xs ta tc nx hk h1 h2 hd j (i+1) (by omega)
  have f1:(ap (i+1) (nv (seg xs oa i)*p2 k) (la+1)).set i ((nv (seg xs oa i)*p2 k/pw i+xs.getD (oa+i) 0*p2 k)%4294967296)=ap (i+1) (nv (seg xs oa (i+1))*p2 k) (la+1):=by
   have g:=Gr (k:=i) (n:=la+1) (by omega) (nv (seg xs oa i)*p2 k) 0
   rw [Int.mul_zero,Int.add_zero,Int.add_zero] at g
   rw [←g,List.set_set,Gr (by omega),hst]
  rw [f1]
  have f2:=Gr (k:=i+1) (n:=la+1) (by omega) (nv (seg xs oa (i+1))*p2 k) 0
  rw [Int.mul_zero,Int.add_zero,Int.add_zero] at f2
  have f3:nv (seg xs oa (i+1))*p2 k/pw (i+1)=xs.getD (oa+i) 0*p2 k/4294967296:=by rw [hst,FG,sd]
  rw [f3,Int.emod_eq_of_lt (by omega) (by omega)] at f2
  rw [f2]
  exact ih
theorem shift.lp {N:Nat→Prop} (k:Int) (n m oa la ca:Nat) (z i:Int) (xs:List Int) (ta:TypeId) (out:List Int) (tc:TypeId) (nx:Nat) {x:X} {S':St} (h:(shift.lt k n m oa la ca z i xs ta out tc nx).at=some (x,S')):Lq Tryz.prog N (Ay Tryz.f217 0) (shift.st k n m oa la ca z i xs ta out tc nx) x S':=by
 obtain ⟨h1,rfl,rfl⟩:=Ez h
 simp only [shift.ok,zB,zD] at h1
 obtain ⟨h1,h2,h3,rfl,rfl,rfl,h7⟩:=h1
 obtain ⟨h8,h9,h10⟩:=Dy.1 h7
 obtain rfl:=zE h3
 obtain ⟨k,rfl⟩:=Int.eq_ofNat_of_zero_le h1
 have:=shift.go (N:=N) k m oa la ca xs ta tc nx (by omega) h8 h9 h10 la 0 (by omega)
 rw [FH,show nv ([]:List Int)*p2 k=0 from Int.zero_mul _] at this
 have e:ap (0+1) 0 (la+1)=List.replicate (la+1) 0:=by
  unfold ap
  rw [JL,List.replicate_append_replicate]
  congr 1
  omega
 rw [e] at this
 exact this
def shift.t:LSpec:=fun S=>match RX.nth S.tmps 1,RX.nth S.tmps 5,RX.nth S.tmps 12,RX.nth S.tmps 13,RX.nth S.tmps 14,RX.look S.heap 0,RX.look S.heap 65 with
 | .int .i64 k,.slice (some ⟨65,0,none⟩) n m,.slice (some ⟨0,oa,none⟩) la ca,.int .i64 z,.int .i64 i,some (.is .u32 xs ta),some (.is .u32 out tc)=>bif Nat.beq S.tmps.length 40 then some (shift.lt k n m oa la ca z i xs ta out tc S.nxt) else none
 |_,_,_,_,_,_,_=>none
theorem shift.lok {N:Nat→Prop} :LOKn Tryz.prog N (Ay Tryz.f217 0) (shift.t):=by
 refine FS fun S lt x S' ht hat=> ?_
 unfold shift.t at ht
 split at ht
 ·rename_i k n m oa la ca z i xs ta out tc h1 h5 h12 h13 h14 g0 g65
  cases hb:Nat.beq S.tmps.length 40 with
  |false=>rw [hb] at ht; cases ht
  | true=>
   rw [hb] at ht
   injection ht with ht
   subst ht
   have hb:=zE hb
   exact .enter (fun h=>FW hb (.cons ⟨h1,bnth h h1⟩ (.cons ⟨h5,bnth h h5⟩ (.cons ⟨h12,bnth h h12⟩ (.cons ⟨h13,bnth h h13⟩ (.cons ⟨h14,bnth h h14⟩ .nil))))) (.cons ⟨g0,bname h g0,rfl⟩ (.cons ⟨g65,bname h g65,rfl⟩ .nil))) (shift.lp _ _ _ _ _ _ _ _ _ _ _ _ _ hat)
 ·cases ht
end Go.Proofs.YtpejalpgficopaaGreatDoor.G
end
