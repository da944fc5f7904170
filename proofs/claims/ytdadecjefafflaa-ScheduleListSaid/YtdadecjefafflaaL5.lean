/- A part of what the law's proof leans on. PACKED BY pack.py of this repo. -/
import Derived.Test.YtdadecjefafflaaL4
set_option linter.unusedVariables false
set_option linter.unusedSimpArgs false
set_option linter.defProp false
set_option linter.unusedSectionVars false
section
namespace Go.Proofs.StSort
set_option maxRecDepth 100000
open Go.Shelf Go.RowKit Go.Lib Go.Sort
variable {α:Type} [Inhabited α]
set_option maxHeartbeats 16000000 in
theorem FO (enc:α→Value) (key:α→Int) (idx:α→Nat) (g:Nat) (cb:Array Value) (blk off cap N a m b:Nat) (d0 d:Array α) (w0 w:World)
  (eg:∀args w,(callFunc g args).run Try.prog w= .ok (.enter g args) w) (hcmp:CmpLays1 Try.prog g cb enc (cfk key) blk off N w0)
  (R1:Row1 enc w0 blk off d0) (h0:d0.size=N) (hN:d.size=N) (S:SW enc w0 blk off d w) (ham:m=a+1) (hmb:m<b) (hb:b≤N) (hsz:N<4611686018427387904) (hP:Pre key idx a m b d):
  Calls Try.prog 65 #[.slice (some ⟨blk,off,none⟩) N cap,.int .i64 a,.int .i64 m,.int .i64 b,.func (.func g) #[] cb] w fun e w'=>e= .returned (.tuple #[])∧∃d',Post key idx a b d d'∧d'.size=N∧SW enc w0 blk off d' w':=by
 have hcl0:=R1.hO.cells
 simp only [Value.cells] at hcl0
 have hst:=R1.hO.store Try.prog
 have mixed:Try.prog.follows .mixedOrders=true:=by kernel_rfl
 have hu26:=Try.underlying26
 have a3:=Try.isAgg3
 have z3:=Try.sizeOf3
 have HC:Aside _:=hcmp
 have S0:Aside (SW enc w0 blk off d w):=S
 have HP:Aside _:=hP
 have c1:(m:Int)-(a:Int)=1:=by omega
 have hA:=ham
 have ha1:a<m:=by omega
 have ha2:m≤a+1:=by omega
 have HA:Aside (m=a+1):=ham
 clear S hcmp hP hA ham
 go_enter Try.func65,Try.ntmps65
 go_wp2
 go_loopg [10,11] (b-m) (fun kx s10 s11 wr=>∃(i j:Nat),s10= .int .i64 i∧s11= .int .i64 j∧m≤i∧i≤j∧j≤b∧j-i≤kx∧Aside (∀p,m≤p→p<i→R key idx d[p]! d[a]!)∧Aside (∀p,j≤p→p<b→R key idx d[a]! d[p]!)∧Aside (SW enc w0 blk off d wr))
 case atStart=>exact ⟨m,b,rfl,rfl,by omega,by omega,by omega,by omega,(fun p h1 h2=>by omega),(fun p h1 h2=>by omega),S0⟩
 case round=>
  clear S0
  obtain ⟨i,j,rfl,rfl,hmi,hij,hjb,hkx,H1,H2,S1⟩:=hrel
  by_cases hlt:i<j
  ·have hltz:(i:Int)<(j:Int):=by omega
   obtain ⟨h,hh⟩:∃h:Nat,h=(i+j)/2:=⟨_,rfl⟩
   have eh:((i:Int)+(j:Int))/2=(h:Int):=by omega
   have hh1:i≤h:=by omega
   have hh2:h<j:=by omega
   clear hh
   go_wp2_with fail
   obtain ⟨x,hx⟩:∃x,x=d[h]! :=⟨_,rfl⟩
   obtain ⟨y,hy⟩:∃x,x=d[a]! :=⟨_,rfl⟩
   obtain ⟨iN,hiN⟩:∃q,q=h:=⟨_,rfl⟩
   obtain ⟨jN,hjN⟩:∃q,q=a:=⟨_,rfl⟩
   have ea:((h:Int)).toNat=iN:=by omega
   have pa:(0:Int)≤(h:Int):=by omega
   have ba:(h:Int)<(N:Int):=by omega
   have ra:IntKind.i64.wrap ((h:Int))=(h:Int):=by rw [IntKind.wrap_i64]; omega
   have ec:((a:Int)).toNat=jN:=by omega
   have pc:(0:Int)≤(a:Int):=by omega
   have bc:(a:Int)<(N:Int):=by omega
   have rc:IntKind.i64.wrap ((a:Int))=(a:Int):=by rw [IntKind.wrap_i64]; omega
   have la:=S1.out.cl R1 zE (h) zE
   have lb:=S1.out.cl R1 zE (a) zE
   rw [←hx,←hiN] at la
   rw [←hy,←hjN] at lb
   have hc:=S1.out.cmp HC.out hN x y
   have HS:Aside _:=S1.out.grown
   have HXY:Aside (x=d[h]! ∧y=d[a]!):=⟨hx,hy⟩
   cases hlv:ltk key x y with
   | true=>
    have hv:cfk key x y<0:=of_decide_eq_true hlv
    have hd:decide (cfk key x y<0)=true:=hlv
    have HL:Aside (ltk key x y=true):=hlv
    clear hlv S1 hx hy hiN hjN
    go_wp2_with fail
    go_quiet_grown (first|(go_at_fn g; refine Calls.grown_of (hc _ _)))
    have S2:Aside (SW enc w0 blk off d (grow (wr.drewN nq) osq)):=HS.out nq osq
    clear la lb hc HS
    generalize grow (wr.drewN nq) osq=w2 at S2 ⊢
    clear nq osq ea ec
    go_wp2
    go_roundg (j-(h+1))
    case measure=>omega
    case rel=>exact ⟨h+1,j,by go_num,rfl,by omega,by omega,hjb,by omega,(fun p h1 h2=>by
     have e:R key idx d[h]! d[a]! :=by have:=HL.out; rw [HXY.out.1,HXY.out.2] at this; exact (EY (HP.out.c a h (Nat.le_refl _) zE zE zE)).mp this
     by_cases hp:p=h
     ·rw [hp]; exact e
     ·exact (HP.out.r p h h1 zE zE).trans e),H2,S2⟩
   | false=>
    have hv:¬cfk key x y<0:=of_decide_eq_false hlv
    have hd:decide (cfk key x y<0)=false:=hlv
    have HL:Aside (ltk key x y=false):=hlv
    clear hlv S1 hx hy hiN hjN
    go_wp2_with fail
    go_quiet_grown (first|(go_at_fn g; refine Calls.grown_of (hc _ _)))
    have S2:Aside (SW enc w0 blk off d (grow (wr.drewN nq) osq)):=HS.out nq osq
    clear la lb hc HS
    generalize grow (wr.drewN nq) osq=w2 at S2 ⊢
    clear nq osq ea ec
    go_wp2
    go_roundg (h-i)
    case measure=>omega
    case rel=>exact ⟨i,h,rfl,rfl,hmi,by omega,by omega,by omega,H1,(fun p h1 h2=>by
     have e:R key idx d[a]! d[h]! :=by have:=HL.out; rw [HXY.out.1,HXY.out.2] at this; exact (Do (HP.out.c a h (Nat.le_refl _) zE zE zE)).mp this
     by_cases hp:p=h
     ·rw [hp]; exact e
     ·exact e.trans (HP.out.r h p zE zE h2)),S2⟩
  ·have hltz:¬(i:Int)<(j:Int):=by omega
   obtain rfl:i=j:=by omega
   go_wp2
   go_loopg [13] (i-a) (fun ky s13 wr=>∃(k:Nat) (dk:Array α),s13= .int .i64 k∧a≤k∧k+1≤i∧i-k≤ky∧Aside (Rot d a (a+1) (k+1) dk)∧dk.size=N∧Aside (SW enc w0 blk off dk wr))
   case atStart=>exact ⟨a,d,rfl,Nat.le_refl _,by omega,Nat.le_refl _,Rot.none (.inr rfl) zE zE,hN,S1⟩
   case round=>
    clear S1
    obtain ⟨k,dk,rfl,hak,hki,hky,HR,hdk,S1⟩:=hrel
    by_cases hlt:k+1<i
    ·have hltz:(k:Int)<(i:Int)-1:=by omega
     obtain ⟨x,hx⟩:∃x,x=dk[k]! :=⟨_,rfl⟩
     obtain ⟨y,hy⟩:∃x,x=dk[k+1]! :=⟨_,rfl⟩
     obtain ⟨iN,hiN⟩:∃q,q=k:=⟨_,rfl⟩
     obtain ⟨jN,hjN⟩:∃q,q=k+1:=⟨_,rfl⟩
     have ea:((k:Int)).toNat=iN:=by omega
     have pa:(0:Int)≤(k:Int):=by omega
     have ba:(k:Int)<(N:Int):=by omega
     have ra:IntKind.i64.wrap ((k:Int))=(k:Int):=by rw [IntKind.wrap_i64]; omega
     have ec:((k:Int)+1).toNat=jN:=by omega
     have pc:(0:Int)≤(k:Int)+1:=by omega
     have bc:(k:Int)+1<(N:Int):=by omega
     have rc:IntKind.i64.wrap ((k:Int)+1)=(k:Int)+1:=by rw [IntKind.wrap_i64]; omega
     have S2:Aside (SW enc w0 blk off (swp dk (k) (k+1)) ((wr.setCell ⟨blk,off+iN,none⟩ (enc y)).setCell ⟨blk,off+jN,none⟩ (enc x)).drew):=by rw [hiN,hjN,hx,hy]; exact S1.out.swapped R1 (k) (k+1) zE zE
     have ca:=S1.out.c1 R1 zE (k) zE
     have cb':=S1.out.c1 R1 zE (k+1) zE
     have fa:=S1.out.f1 R1 zE (k) zE
     have fb:=S1.out.f1 R1 zE (k+1) zE
     obtain ⟨u,cc⟩:=S1.out.c2 R1 zE (k) (k+1) zE zE (enc y)
     simp only [←hjN,←hiN] at cc
     rw [←hx,←hiN] at ca
     rw [←hy,←hjN] at cb'
     rw [←hiN] at fa
     rw [←hjN] at fb
     clear S1 hx hy hiN hjN
     go_wp2_with fail
     go_big_region_o
     clear ca cb' cc fa fb
     generalize ((wr.setCell ⟨blk,off+iN,none⟩ (enc y)).setCell ⟨blk,off+jN,none⟩ (enc x)).drew=w2 at S2 ⊢
     clear ea ec
     go_wp2
     go_roundg (i-(k+1))
     case measure=>omega
     case rel=>exact ⟨k+1,swp dk k (k+1),by go_num,by omega,by omega,by omega,HR.out.up hak zE,by rw [size_swp]; exact hdk,S2⟩
    ·have hltz:¬(k:Int)<(i:Int)-1:=by omega
     go_wp2
     (try simp only [Exit.inBlock,Exit.then])
     refine bodyPost_ret (results_none rfl _ _ _) rfl ?_
     obtain rfl:i=k+1:=by omega
     have hR:=HR.out
     rw [←HA.out] at hR
     exact ⟨rfl,dk,Cut.one zE HP.out (s:=a) (e:=k+1) ⟨Nat.le_refl _,by omega,by omega,by omega,(fun p q p1 p2 q1 q2=>by rw [show q=a by omega]; exact H1.out p p1 p2),(fun p q p1 p2 q1 q2=>by omega)⟩ hR (fun p q p1 p2 q1 q2=>by rw [show p=a by omega]; exact H2.out q q1 q2) (fun p q p1 p2 q1 q2=>by omega),hdk,S1.out⟩
end Go.Proofs.StSort
end
section
namespace Go.Proofs.StSort
set_option maxRecDepth 100000
open Go.Shelf Go.RowKit Go.Lib Go.Sort
variable {α:Type} [Inhabited α]
set_option maxHeartbeats 16000000 in
theorem FN (enc:α→Value) (key:α→Int) (idx:α→Nat) (g:Nat) (cb:Array Value) (blk off cap N a m b:Nat) (d0 d:Array α) (w0 w:World)
  (eg:∀args w,(callFunc g args).run Try.prog w= .ok (.enter g args) w) (hcmp:CmpLays1 Try.prog g cb enc (cfk key) blk off N w0)
  (R1:Row1 enc w0 blk off d0) (h0:d0.size=N) (hN:d.size=N) (S:SW enc w0 blk off d w) (ham:a+1<m) (hmb:b=m+1) (hb:b≤N) (hsz:N<4611686018427387904) (hP:Pre key idx a m b d):
  Calls Try.prog 65 #[.slice (some ⟨blk,off,none⟩) N cap,.int .i64 a,.int .i64 m,.int .i64 b,.func (.func g) #[] cb] w fun e w'=>e= .returned (.tuple #[])∧∃d',Post key idx a b d d'∧d'.size=N∧SW enc w0 blk off d' w':=by
 have hcl0:=R1.hO.cells
 simp only [Value.cells] at hcl0
 have hst:=R1.hO.store Try.prog
 have mixed:Try.prog.follows .mixedOrders=true:=by kernel_rfl
 have hu26:=Try.underlying26
 have a3:=Try.isAgg3
 have z3:=Try.sizeOf3
 have HC:Aside _:=hcmp
 have S0:Aside (SW enc w0 blk off d w):=S
 have HP:Aside _:=hP
 have c1:((m:Int)-(a:Int)==1)=false:=by rw [beq_eq_false_iff_ne]; omega
 have c2:(b:Int)-(m:Int)=1:=by omega
 have hb1:m<b:=by omega
 have hb2:b≤m+1:=by omega
 have HA:Aside (b=m+1):=hmb
 clear S hcmp hP hmb
 go_enter Try.func65,Try.ntmps65
 go_wp2
 go_loopg [14,15] (m-a) (fun kx s14 s15 wr=>∃(i j:Nat),s14= .int .i64 i∧s15= .int .i64 j∧a≤i∧i≤j∧j≤m∧j-i≤kx∧Aside (∀p,a≤p→p<i→R key idx d[p]! d[m]!)∧Aside (∀p,j≤p→p<m→R key idx d[m]! d[p]!)∧Aside (SW enc w0 blk off d wr))
 case atStart=>exact ⟨a,m,rfl,rfl,by omega,by omega,by omega,by omega,(fun p h1 h2=>by omega),(fun p h1 h2=>by omega),S0⟩
 case round=>
  clear S0
  obtain ⟨i,j,rfl,rfl,hmi,hij,hjb,hkx,H1,H2,S1⟩:=hrel
  by_cases hlt:i<j
  ·have hltz:(i:Int)<(j:Int):=by omega
   obtain ⟨h,hh⟩:∃h:Nat,h=(i+j)/2:=⟨_,rfl⟩
   have eh:((i:Int)+(j:Int))/2=(h:Int):=by omega
   have hh1:i≤h:=by omega
   have hh2:h<j:=by omega
   clear hh
   go_wp2_with fail
   obtain ⟨x,hx⟩:∃x,x=d[m]! :=⟨_,rfl⟩
   obtain ⟨y,hy⟩:∃x,x=d[h]! :=⟨_,rfl⟩
   obtain ⟨iN,hiN⟩:∃q,q=m:=⟨_,rfl⟩
   obtain ⟨jN,hjN⟩:∃q,q=h:=⟨_,rfl⟩
   have ea:((m:Int)).toNat=iN:=by omega
   have pa:(0:Int)≤(m:Int):=by omega
   have ba:(m:Int)<(N:Int):=by omega
   have ra:IntKind.i64.wrap ((m:Int))=(m:Int):=by rw [IntKind.wrap_i64]; omega
   have ec:((h:Int)).toNat=jN:=by omega
   have pc:(0:Int)≤(h:Int):=by omega
   have bc:(h:Int)<(N:Int):=by omega
   have rc:IntKind.i64.wrap ((h:Int))=(h:Int):=by rw [IntKind.wrap_i64]; omega
   have la:=S1.out.cl R1 zE (m) zE
   have lb:=S1.out.cl R1 zE (h) zE
   rw [←hx,←hiN] at la
   rw [←hy,←hjN] at lb
   have hc:=S1.out.cmp HC.out hN x y
   have HS:Aside _:=S1.out.grown
   have HXY:Aside (x=d[m]! ∧y=d[h]!):=⟨hx,hy⟩
   cases hlv:ltk key x y with
   | true=>
    have hv:cfk key x y<0:=of_decide_eq_true hlv
    have hd:decide (cfk key x y<0)=true:=hlv
    have HL:Aside (ltk key x y=true):=hlv
    clear hlv S1 hx hy hiN hjN
    go_wp2_with fail
    go_quiet_grown (first|(go_at_fn g; refine Calls.grown_of (hc _ _)))
    have S2:Aside (SW enc w0 blk off d (grow (wr.drewN nq) osq)):=HS.out nq osq
    clear la lb hc HS
    generalize grow (wr.drewN nq) osq=w2 at S2 ⊢
    clear nq osq ea ec
    go_wp2
    go_roundg (h-i)
    case measure=>omega
    case rel=>exact ⟨i,h,rfl,rfl,hmi,by omega,by omega,by omega,H1,(fun p h1 h2=>by
     have e:R key idx d[m]! d[h]! :=by have:=HL.out; rw [HXY.out.1,HXY.out.2] at this; exact (EY (HP.out.c h m zE zE (Nat.le_refl _) zE)).mp this
     by_cases hp:p=h
     ·rw [hp]; exact e
     ·exact e.trans (HP.out.l h p zE zE h2)),S2⟩
   | false=>
    have hv:¬cfk key x y<0:=of_decide_eq_false hlv
    have hd:decide (cfk key x y<0)=false:=hlv
    have HL:Aside (ltk key x y=false):=hlv
    clear hlv S1 hx hy hiN hjN
    go_wp2_with fail
    go_quiet_grown (first|(go_at_fn g; refine Calls.grown_of (hc _ _)))
    have S2:Aside (SW enc w0 blk off d (grow (wr.drewN nq) osq)):=HS.out nq osq
    clear la lb hc HS
    generalize grow (wr.drewN nq) osq=w2 at S2 ⊢
    clear nq osq ea ec
    go_wp2
    go_roundg (j-(h+1))
    case measure=>omega
    case rel=>exact ⟨h+1,j,by go_num,rfl,by omega,by omega,hjb,by omega,(fun p h1 h2=>by
     have e:R key idx d[h]! d[m]! :=by have:=HL.out; rw [HXY.out.1,HXY.out.2] at this; exact (Do (HP.out.c h m zE zE (Nat.le_refl _) zE)).mp this
     by_cases hp:p=h
     ·rw [hp]; exact e
     ·exact (HP.out.l p h h1 zE zE).trans e),H2,S2⟩
  ·have hltz:¬(i:Int)<(j:Int):=by omega
   obtain rfl:i=j:=by omega
   go_wp2
   go_loopg [17] (m-i) (fun ky s17 wr=>∃(k:Nat) (dk:Array α),s17= .int .i64 k∧i≤k∧k≤m∧k-i≤ky∧Aside (Rot d k m (m+1) dk)∧dk.size=N∧Aside (SW enc w0 blk off dk wr))
   case atStart=>exact ⟨m,d,rfl,by omega,Nat.le_refl _,by omega,Rot.none (.inl rfl) (Nat.le_refl _) zE,hN,S1⟩
   case round=>
    clear S1
    obtain ⟨k,dk,rfl,hak,hki,hky,HR,hdk,S1⟩:=hrel
    by_cases hlt:i<k
    ·obtain ⟨kp,rfl⟩:∃q,k=q+1:=⟨k-1,by omega⟩
     have zkp:((kp+1:Nat):Int)=(kp:Int)+1:=by omega
     rw [zkp]
     have hltz:(i:Int)<(kp:Int)+1:=by omega
     obtain ⟨x,hx⟩:∃x,x=dk[kp+1]! :=⟨_,rfl⟩
     obtain ⟨y,hy⟩:∃x,x=dk[kp]! :=⟨_,rfl⟩
     obtain ⟨iN,hiN⟩:∃q,q=kp+1:=⟨_,rfl⟩
     obtain ⟨jN,hjN⟩:∃q,q=kp:=⟨_,rfl⟩
     have ea:((kp:Int)+1).toNat=iN:=by omega
     have pa:(0:Int)≤(kp:Int)+1:=by omega
     have ba:(kp:Int)+1<(N:Int):=by omega
     have ra:IntKind.i64.wrap ((kp:Int)+1)=(kp:Int)+1:=by rw [IntKind.wrap_i64]; omega
     have ec:((kp:Int)).toNat=jN:=by omega
     have pc:(0:Int)≤(kp:Int):=by omega
     have bc:(kp:Int)<(N:Int):=by omega
     have rc:IntKind.i64.wrap ((kp:Int))=(kp:Int):=by rw [IntKind.wrap_i64]; omega
     have S2:Aside (SW enc w0 blk off (swp dk (kp+1) (kp)) ((wr.setCell ⟨blk,off+iN,none⟩ (enc y)).setCell ⟨blk,off+jN,none⟩ (enc x)).drew):=by rw [hiN,hjN,hx,hy]; exact S1.out.swapped R1 (kp+1) (kp) zE zE
     have ca:=S1.out.c1 R1 zE (kp+1) zE
     have cb':=S1.out.c1 R1 zE (kp) zE
     have fa:=S1.out.f1 R1 zE (kp+1) zE
     have fb:=S1.out.f1 R1 zE (kp) zE
     obtain ⟨u,cc⟩:=S1.out.c2 R1 zE (kp+1) (kp) zE zE (enc y)
     simp only [←hjN,←hiN] at cc
     rw [←hx,←hiN] at ca
     rw [←hy,←hjN] at cb'
     rw [←hiN] at fa
     rw [←hjN] at fb
     clear S1 hx hy hiN hjN
     go_wp2_with fail
     go_big_region_o
     clear ca cb' cc fa fb
     generalize ((wr.setCell ⟨blk,off+iN,none⟩ (enc y)).setCell ⟨blk,off+jN,none⟩ (enc x)).drew=w2 at S2 ⊢
     clear ea ec
     go_wp2
     go_roundg (kp-i)
     case measure=>omega
     case rel=>exact ⟨kp,swp dk (kp+1) kp,by first|rfl|go_num|(congr 1; omega),by omega,by omega,by omega,HR.out.down zE zE,by rw [size_swp]; exact hdk,S2⟩
    ·have hltz:¬(i:Int)<(k:Int):=by omega
     go_wp2
     (try simp only [Exit.inBlock,Exit.then])
     refine bodyPost_ret (results_none rfl _ _ _) rfl ?_
     obtain rfl:i=k:=by omega
     have hR:=HR.out
     rw [←HA.out] at hR
     exact ⟨rfl,dk,Cut.one zE HP.out (s:=i) (e:=b) ⟨by omega,by omega,by omega,by omega,(fun p q p1 p2 q1 q2=>by rw [show p=m by omega]; exact H2.out q q1 q2),(fun p q p1 p2 q1 q2=>by omega)⟩ hR (fun p q p1 p2 q1 q2=>by omega) (fun p q p1 p2 q1 q2=>by rw [show q=m by omega]; exact H1.out p p1 p2),hdk,S1.out⟩
end Go.Proofs.StSort
end
section
namespace Go.Proofs.StSort
set_option maxRecDepth 100000
open Go.Shelf Go.RowKit Go.Lib Go.Sort
variable {α:Type} [Inhabited α]
theorem Pre.behind {key:α→Int} {idx:α→Nat} {a c m b:Nat} {d d':Array α} (h:Pre key idx c m b d) (hcm:c≤m) (hp:PermIn a c d d'):Pre key idx c m b d':=
 ⟨fun p q h1 h2 h3=>by rw [hp.2.1 p (.inr h1),hp.2.1 q (.inr zE)]; exact h.l p q h1 h2 h3,fun p q h1 h2 h3=>by rw [hp.2.1 p (.inr zE),hp.2.1 q (.inr zE)]; exact h.r p q h1 h2 h3,fun p q h1 h2 h3 h4=>by rw [hp.2.1 p (.inr h1),hp.2.1 q (.inr zE)]; exact h.c p q h1 h2 h3 h4⟩
set_option maxHeartbeats 16000000 in
theorem El (enc : α →Value) (key:α→Int) (idx:α→Nat) (g:Nat) (cb:Array Value) (blk off cap N:Nat) (d0:Array α) (w0:World)
  (eg:∀args w,(callFunc g args).run Try.prog w= .ok (.enter g args) w) (hcmp:CmpLays1 Try.prog g cb enc (cfk key) blk off N w0)
  (R1:Row1 enc w0 blk off d0) (h0:d0.size=N) (hsz:N<4611686018427387904):∀(n a m b:Nat) (d:Array α) (w:World),b-a≤n→d.size=N→SW enc w0 blk off d w→a<m→m<b→b≤N→Pre key idx a m b d→
  Calls Try.prog 65 #[.slice (some ⟨blk,off,none⟩) N cap,.int .i64 a,.int .i64 m,.int .i64 b,.func (.func g) #[] cb] w fun e w'=>e= .returned (.tuple #[])∧∃d',Post key idx a b d d'∧d'.size=N∧SW enc w0 blk off d' w':=by
 intro n
 induction n with
 |zero=>exact fun a m b d w hn hN S ham hmb hb hP=>absurd hn zE
 | succ n IH =>
  intro a m b d w hn hN S ham hmb hb hP
  by_cases hl:m=a+1
  ·exact FO enc key idx g cb blk off cap N a m b d0 d w0 w eg hcmp R1 h0 hN S hl hmb hb hsz hP
  by_cases hr:b=m+1
  ·exact FN enc key idx g cb blk off cap N a m b d0 d w0 w eg hcmp R1 h0 hN S zE hr hb hsz hP
  have hcl0:=R1.hO.cells
  simp only [Value.cells] at hcl0
  have hst:=R1.hO.store Try.prog
  have mixed:Try.prog.follows .mixedOrders=true:=by kernel_rfl
  have hu26:=Try.underlying26
  have a3:=Try.isAgg3
  have z3:=Try.sizeOf3
  have HC:Aside _:=hcmp
  have HIH:Aside _:=IH
  have S0:Aside (SW enc w0 blk off d w):=S
  have HP:Aside _:=hP
  have c1:((m:Int)-(a:Int)==1)=false:=by rw [beq_eq_false_iff_ne]; omega
  have c2:((b:Int)-(m:Int)==1)=false:=by rw [beq_eq_false_iff_ne]; omega
  obtain ⟨md,hmd⟩:∃q:Nat,q=(a+b)/2:=⟨_,rfl⟩
  have em:((a:Int)+(b:Int))/2=(md:Int):=by omega
  have hmd1:a<md:=by omega
  have hmd2:md<b:=by omega
  have HMD:Aside (md=(a+b)/2):=hmd
  have hx1:m>md→a+b≤md+m:=by omega
  have hx2:¬m>md→md+m≤a+b:=by omega
  clear S hcmp hP hmd IH
  have hx3:Aside (m>md→a+b≤md+m):=hx1
  have hx4:Aside (¬m>md→md+m≤a+b):=hx2
  clear hx1 hx2 hl hr
  go_enter Try.func65,Try.ntmps65
  go_upto_if 140 with fail
  go_cut [20,21] from 138 to 146 (fun s20 s21 wc=>∃s0 r0:Nat,s20= .int .i64 s0∧s21= .int .i64 r0∧Aside (s0=if m>md then md+m-b else a)∧Aside (r0=if m>md then md else m)∧a≤s0∧md+m≤b+s0∧s0≤r0∧r0≤m∧r0≤md∧Aside (SW enc w0 blk off d wc))
  case first=>
   by_cases hc:md<m
   ·have hcz:(md:Int)<(m:Int):=by omega
    have:=hx3.out hc
    go_wp2_with fail
    go_meet
    exact ⟨md+m-b,md,by rw [show ((md+m-b:Nat):Int)=(md:Int)+m-b by omega],rfl,(if_pos hc).symm,(if_pos hc).symm,by omega,by omega,by omega,by omega,by omega,S0⟩
   ·have hcz:¬(md:Int)<(m:Int):=by omega
    have:=hx4.out hc
    go_wp2_with fail
    go_meet
    exact ⟨a,m,rfl,rfl,(if_neg hc).symm,(if_neg hc).symm,by omega,by omega,by omega,by omega,by omega,S0⟩
  case rest =>
   clear S0
   obtain ⟨s0,r0,rfl,rfl,E0,E1,b1,b2,b3,b4,b5,S0⟩:=hcut
   go_wp2
   go_loopg [20,21] (r0-s0) (fun kx s20 s21 wr=>∃(i j:Nat),s20= .int .i64 i∧s21= .int .i64 j∧s0≤i∧i≤j∧j≤r0∧j-i≤kx∧Aside (i=s0∨R key idx d[i-1]! d[md+m-1-(i-1)]!)∧Aside (j=r0∨R key idx d[md+m-1-j]! d[j]!)∧Aside (SW enc w0 blk off d wr))
   case atStart=>exact ⟨s0,r0,rfl,rfl,Nat.le_refl _,b3,Nat.le_refl _,Nat.le_refl _,(.inl rfl),(.inl rfl),S0⟩
   case round=>
    clear S0
    obtain ⟨i,j,rfl,rfl,hmi,hij,hjb,hkx,H1,H2,S1⟩:=hrel
    by_cases hlt:i<j
    ·have hltz:(i:Int)<(j:Int):=by omega
     obtain ⟨h,hh⟩:∃h:Nat,h=(i+j)/2:=⟨_,rfl⟩
     have eh:((i:Int)+(j:Int))/2=(h:Int):=by omega
     have hh1:i≤h:=by omega
     have hh2:h<j:=by omega
     obtain ⟨P,hP⟩:∃P:Nat,P=md+m-1-h:=⟨_,rfl⟩
     have eP:(md:Int)+(m:Int)-1-(h:Int)=(P:Int):=by omega
     have hP1:m≤P:=by omega
     have hP2:P<b:=by omega
     have HPe:Aside (P=md+m-1-h):=hP
     clear hh hP
     go_wp2_with fail
     obtain ⟨x,hx⟩:∃x,x=d[P]! :=⟨_,rfl⟩
     obtain ⟨y,hy⟩:∃x,x=d[h]! :=⟨_,rfl⟩
     obtain ⟨iN,hiN⟩:∃q,q=P:=⟨_,rfl⟩
     obtain ⟨jN,hjN⟩:∃q,q=h:=⟨_,rfl⟩
     have ea:((P:Int)).toNat=iN:=by omega
     have pa:(0:Int)≤(P:Int):=by omega
     have ba:(P:Int)<(N:Int):=by omega
     have ra:IntKind.i64.wrap ((P:Int))=(P:Int):=by rw [IntKind.wrap_i64]; omega
     have ec:((h:Int)).toNat=jN:=by omega
     have pc:(0:Int)≤(h:Int):=by omega
     have bc:(h:Int)<(N:Int):=by omega
     have rc:IntKind.i64.wrap ((h:Int))=(h:Int):=by rw [IntKind.wrap_i64]; omega
     have la:=S1.out.cl R1 zE P zE
     have lb:=S1.out.cl R1 zE (h) zE
     rw [←hx,←hiN] at la
     rw [←hy,←hjN] at lb
     have hc:=S1.out.cmp HC.out hN x y
     have HS:Aside _:=S1.out.grown
     have HXY:Aside (x=d[P]! ∧y=d[h]!):=⟨hx,hy⟩
     cases hlv:ltk key x y with
     | true=>
      have hv:cfk key x y<0:=of_decide_eq_true hlv
      have hd:decide (cfk key x y<0)=true:=hlv
      have HL:Aside (ltk key x y=true):=hlv
      clear hlv S1 hx hy hiN hjN
      go_wp2_with fail
      go_quiet_grown (first|(go_at_fn g; refine Calls.grown_of (hc _ _)))
      have S2:Aside (SW enc w0 blk off d (grow (wr.drewN nq) osq)):=HS.out nq osq
      clear la lb hc HS
      generalize grow (wr.drewN nq) osq=w2 at S2 ⊢
      clear nq osq ea ec
      go_wp2
      go_roundg (h-i)
      case measure=>omega
      case rel=>exact ⟨i,h,rfl,rfl,hmi,by omega,by omega,by omega,H1,(.inr (by
       have:=HL.out; rw [HXY.out.1,HXY.out.2] at this; (first|rw [show h+1-1=h from rfl]|skip); rw [←HPe.out]; exact (EY (HP.out.c h P zE zE hP1 hP2)).mp this)),S2⟩
     | false=>
      have hv:¬cfk key x y<0:=of_decide_eq_false hlv
      have hd:decide (cfk key x y<0)=false:=hlv
      have HL:Aside (ltk key x y=false):=hlv
      clear hlv S1 hx hy hiN hjN
      go_wp2_with fail
      go_quiet_grown (first|(go_at_fn g; refine Calls.grown_of (hc _ _)))
      have S2:Aside (SW enc w0 blk off d (grow (wr.drewN nq) osq)):=HS.out nq osq
      clear la lb hc HS
      generalize grow (wr.drewN nq) osq=w2 at S2 ⊢
      clear nq osq ea ec
      go_wp2
      go_roundg (j-(h+1))
      case measure=>omega
      case rel=>exact ⟨h+1,j,by go_num,rfl,by omega,by omega,hjb,by omega,(.inr (by
       have:=HL.out; rw [HXY.out.1,HXY.out.2] at this; (first|rw [show h+1-1=h from rfl]|skip); rw [←HPe.out]; exact (Do (HP.out.c h P zE zE hP1 hP2)).mp this)),H2,S2⟩
    ·have hltz : ¬ (i:Int)<(j:Int):=by omega
     obtain rfl:i=j:=by omega
     obtain ⟨e,he⟩:∃q:Nat,q=md+m-i:=⟨_,rfl⟩
     have ee:(md:Int)+(m:Int)-(i:Int)=(e:Int):=by omega
     have HE:Aside (e=md+m-i):=he
     have HCut:Aside (Cut key idx a m b i e d):=by rw [he]; exact Cut.found HP.out ham hmb (by rw [←HMD.out]) (by rw [←HMD.out]; exact E0.out) (by rw [←HMD.out]; exact E1.out) hmi hjb H1.out H2.out
     have k1:i≤m:=by omega
     have k2:m≤e:=by omega
     have k3:e≤b:=by omega
     have k4:a≤i:=by omega
     have k5:i≤md:=by omega
     have k6:md≤e:=by omega
     clear he E0 E1 H1 H2 b1 b2 b3 b4 b5 hmi hjb hkx hij
     go_upto_region 39 with fail
     go_cut [185] from 178 to 184 (fun s185 wc=>s185= .bool (decide (i<m∧m<e))∧Aside (SW enc w0 blk off d wc))
     case first=>
      by_cases q1:i<m
      ·have q1z:(i:Int)<(m:Int):=by omega
       by_cases q2:m<e
       ·have q2z:(m:Int)<(e:Int):=by omega
        have q3:decide (i<m∧m<e)=true:=decide_eq_true ⟨q1,q2⟩
        go_wp2_with fail
        go_meet
        exact ⟨by first|rfl|rw [q3],S1⟩
       ·have q2z:¬(m:Int)<(e:Int):=by omega
        have q3:decide (i<m∧m<e)=false:=decide_eq_false (fun h=>q2 h.2)
        go_wp2_with fail
        go_meet
        exact ⟨by first|rfl|rw [q3],S1⟩
      ·have q1z:¬(i:Int)<(m:Int):=by omega
       have q3:decide (i<m∧m<e)=false:=decide_eq_false (fun h=>q1 h.1)
       go_wp2_with fail
       go_meet
       exact ⟨by first|rfl|rw [q3],S1⟩
     case rest =>
      clear S1
      obtain ⟨rfl,S1⟩:=hcut
      go_upto_if 185 with fail
      go_cut [] from 185 to 191 (fun wc=>∃d1:Array α,Aside (Rot d i m e d1)∧d1.size=N∧Aside (SW enc w0 blk off d1 wc))
      case first=>
       by_cases q:i<m∧m<e
       ·have q1:decide (i<m∧m<e)=true:=decide_eq_true q
        have hcall:=rotate enc (.func (.func g) #[] cb) blk off cap N i m e d0 d w0 wc R1 h0 hN S1.out q.1 q.2 zE hsz
        clear S1
        go_wp2_with (go_at_call 72; refine hcall.mono ?_; rintro e1 w1 ⟨rfl,d1,hR,hd1,S3⟩)
        go_meet
        exact ⟨d1,hR,hd1,S3⟩
       ·have q1:decide (i<m∧m<e)=false:=decide_eq_false q
        go_wp2_with fail
        go_meet
        exact ⟨d,Rot.none zE zE zE,hN,S1⟩
      case rest =>
       clear S1
       obtain ⟨d1,HR,hd1,S1⟩:=hcut
       have HPt:Aside _:=HCut.out.parts HP.out HR.out
       have HMe:Aside (i+(e-m)=md):=by show _=_; omega
       go_upto_region 41 with fail
       go_cut [199] from 192 to 198 (fun s199 wc=>s199= .bool (decide (a<i∧i<md))∧Aside (SW enc w0 blk off d1 wc))
       case first=>
        by_cases q1:a<i
        ·have q1z:(a:Int)<(i:Int):=by omega
         by_cases q2:i<md
         ·have q2z:(i:Int)<(md:Int):=by omega
          have q3:decide (a<i∧i<md)=true:=decide_eq_true ⟨q1,q2⟩
          go_wp2_with fail
          go_meet
          exact ⟨by first|rfl|rw [q3],S1⟩
         ·have q2z:¬(i:Int)<(md:Int):=by omega
          have q3:decide (a<i∧i<md)=false:=decide_eq_false (fun h=>q2 h.2)
          go_wp2_with fail
          go_meet
          exact ⟨by first|rfl|rw [q3],S1⟩
        ·have q1z:¬(a:Int)<(i:Int):=by omega
         have q3:decide (a<i∧i<md)=false:=decide_eq_false (fun h=>q1 h.1)
         go_wp2_with fail
         go_meet
         exact ⟨by first|rfl|rw [q3],S1⟩
       case rest =>
        clear S1
        obtain ⟨rfl,S1⟩:=hcut
        go_upto_if 199 with fail
        go_cut [] from 199 to 205 (fun wc=>∃d2:Array α,Aside (Post key idx a md d1 d2)∧d2.size=N∧Aside (SW enc w0 blk off d2 wc))
        case first=>
         by_cases q:a<i∧i<md
         ·have q1:decide (a<i∧i<md)=true:=decide_eq_true q
          have hcall:=HIH.out a i md d1 wc zE hd1 S1.out q.1 q.2 zE (by have:=HPt.out.1; rw [HMe.out] at this; exact this)
          clear S1
          go_wp2_with (go_at_call 65; refine hcall.mono ?_; rintro e1 w1 ⟨rfl,d2,hQ,hd2,S3⟩)
          go_meet
          exact ⟨d2,hQ,hd2,S3⟩
         ·have q1:decide (a<i∧i<md)=false:=decide_eq_false q
          go_wp2_with fail
          go_meet
          exact ⟨d1,⟨permIn_refl _ _ _,by
           have h1:=HPt.out.1
           rw [HMe.out] at h1
           by_cases h:a=i
           ·rw [h]; exact h1.r
           ·have h2:md=i:=by omega
            rw [h2]; exact h1.l⟩,hd1,S1⟩
        case rest =>
         clear S1
         obtain ⟨d2,HQ,hd2,S1⟩:=hcut
         go_upto_region 43 with fail
         go_cut [213] from 206 to 212 (fun s213 wc=>s213= .bool (decide (md<e∧e<b))∧Aside (SW enc w0 blk off d2 wc))
         case first=>
          by_cases q1:md<e
          ·have q1z:(md:Int)<(e:Int):=by omega
           by_cases q2:e<b
           ·have q2z:(e:Int)<(b:Int):=by omega
            have q3:decide (md<e∧e<b)=true:=decide_eq_true ⟨q1,q2⟩
            go_wp2_with fail
            go_meet
            exact ⟨by first|rfl|rw [q3],S1⟩
           ·have q2z:¬(e:Int)<(b:Int):=by omega
            have q3:decide (md<e∧e<b)=false:=decide_eq_false (fun h=>q2 h.2)
            go_wp2_with fail
            go_meet
            exact ⟨by first|rfl|rw [q3],S1⟩
          ·have q1z:¬(md:Int)<(e:Int):=by omega
           have q3:decide (md<e∧e<b)=false:=decide_eq_false (fun h=>q1 h.1)
           go_wp2_with fail
           go_meet
           exact ⟨by first|rfl|rw [q3],S1⟩
         case rest=>
          clear S1
          obtain ⟨rfl,S1⟩:=hcut
          have HPr:Aside (Pre key idx md e b d2):=by
           have h2:=HPt.out.2.1
           rw [HMe.out] at h2
           exact h2.behind zE HQ.out.1
          have HD:Aside (∀d3,Post key idx md b d2 d3→Post key idx a b d d3):=fun d3 h3=>by
           have h4:=HPt.out.2.2
           rw [HMe.out] at h4
           have h5:=FZ zE zE zE h4 HQ.out h3
           exact ⟨permIn_trans _ _ _ _ _ (permIn_mono _ _ _ _ _ _ zE k3 zE (HR.out.perm k1 k2 zE)) h5.1,h5.2⟩
          by_cases q:md<e∧e<b
          ·have q1:decide (md<e∧e<b)=true:=decide_eq_true q
           have hcall:=HIH.out md e b d2 wc zE hd2 S1.out q.1 q.2 zE HPr.out
           clear S1
           go_wp2_with (go_at_call 65; refine hcall.mono ?_; rintro e1 w1 ⟨rfl,d3,hQ,hd3,S3⟩)
           go_end0
           exact ⟨rfl,d3,HD.out d3 hQ,hd3,S3⟩
          ·have q1:decide (md<e∧e<b)=false:=decide_eq_false q
           go_wp2
           go_end0
           exact ⟨rfl,d2,HD.out d2 ⟨permIn_refl _ _ _,by
            by_cases h:md=e
            ·rw [h]; exact HPr.out.r
            ·have h2:b=e:=by omega
             rw [h2]; exact HPr.out.l⟩,hd2,S1.out⟩
end Go.Proofs.StSort
end
section
namespace Go.Proofs.StSort
set_option maxRecDepth 100000
open Go.Shelf Go.RowKit Go.Lib Go.Sort
variable {α:Type} [Inhabited α]
def Blk (key:α→Int) (idx:α→Nat) (d:Array α) (a:Nat) (dk:Array α):Prop:=
 (a=0∧dk=d)∨(a=20∧Post key idx 0 20 d dk)∨(a=40∧∃d1,Post key idx 0 20 d d1∧Post key idx 20 40 d1 dk)
theorem Blk.out {key:α→Int} {idx:α→Nat} {d dk:Array α} {a:Nat} (h:Blk key idx d a dk):∀p,a≤p→dk[p]! =d[p]! :=by
 intro p hp
 rcases h with ⟨rfl,rfl⟩|⟨rfl,h⟩|⟨rfl,d1,h1,h2⟩
 ·rfl
 ·exact h.1.2.1 p (.inr hp)
 ·rw [h2.1.2.1 p (.inr hp),h1.1.2.1 p (.inr zE)]
theorem Blk.step {key:α→Int} {idx:α→Nat} {d dk dk':Array α} {a:Nat} (h:Blk key idx d a dk) (ha:a+20≤40) (hp:Post key idx a (a+20) dk dk'):Blk key idx d (a+20) dk':=by
 rcases h with ⟨rfl,rfl⟩|⟨rfl,h⟩|⟨rfl,d1,h1,h2⟩
 ·exact .inr (.inl ⟨rfl,hp⟩)
 ·exact .inr (.inr ⟨rfl,dk,h,hp⟩)
 ·omega
theorem Blk.stab {key:α→Int} {idx:α→Nat} {d dk:Array α} {a b N:Nat} (h:Blk key idx d a dk) (hi:∀p,p<N→idx d[p]! =p) (hb:b≤N):Stab key idx a b dk:=fun p q h1 h2 h3 _=>by
 rw [h.out p h1,h.out q zE,hi p zE,hi q zE]; exact h2
theorem Blk.one {key:α→Int} {idx:α→Nat} {d dk d':Array α} {a N:Nat} (h:Blk key idx d a dk) (haN:a≤N) (hN:N≤20) (hp:Post key idx a N dk d'):Post key idx 0 N d d':=by
 rcases h with ⟨rfl,rfl⟩|⟨rfl,h⟩|⟨rfl,d1,h1,h2⟩
 ·exact hp
 ·obtain rfl:N=20:=by omega
  refine ⟨⟨hp.1.1.trans h.1.1,fun i hi=>(hp.1.2.1 i zE).trans (h.1.2.1 i hi),?_⟩,fun p q h1 h2 h3=> ?_⟩
  ·have e:=permIn_mono dk d' 20 20 0 20
   by_cases hs:20≤dk.size
   ·exact (e zE (Nat.le_refl _) hs hp.1).2.2.trans h.1.2.2
   ·have ex:d'=dk:=by
     apply Array.ext hp.1.1
     intro k k1 k2
     have:=hp.1.2.1 k zE
     rwa [getElem!_pos d' k k1,getElem!_pos dk k k2] at this
    rw [ex]; exact h.1.2.2
  ·rw [hp.1.2.1 p zE,hp.1.2.1 q zE]; exact h.2 p q h1 h2 h3
 ·omega
theorem Blk.two {key:α→Int} {idx:α→Nat} {d dk d':Array α} {a N:Nat} (h:Blk key idx d a dk) (haN:a≤N) (haN2:N<a+20) (hN:20<N) (hN4:N≤40) (hs:N≤d.size) (hi:∀p,p<N→idx d[p]! =p) (hp:Post key idx a N dk d'):
  Pre key idx 0 20 N d'∧PermIn 0 N d d':=by
 have key1:∃d1,Post key idx 0 20 d d1∧Post key idx 20 N d1 d':=by
  rcases h with ⟨rfl,rfl⟩|⟨rfl,h⟩|⟨rfl,d1,h1,h2⟩
  ·omega
  ·exact ⟨dk,h,hp⟩
  ·obtain rfl:N=40:=by omega
   refine ⟨d1,h1,⟨⟨hp.1.1.trans h2.1.1,fun i hi=>(hp.1.2.1 i zE).trans (h2.1.2.1 i hi),?_⟩,fun p q h1 h2' h3=> ?_⟩⟩
   ·exact (permIn_mono dk d' 40 40 20 40 zE (Nat.le_refl _) (by rw [h2.1.1,h1.1.1]; exact hs) hp.1).2.2.trans h2.1.2.2
   ·rw [hp.1.2.1 p zE,hp.1.2.1 q zE]; exact h2.2 p q h1 h2' h3
 obtain ⟨d1,h1,h2⟩:=key1
 have s1:=h1.1.1
 refine ⟨⟨fun p q p1 p2 p3=> ?_,h2.2,fun p q p1 p2 p3 p4=> ?_⟩,permIn_trans _ _ _ _ _ (permIn_mono _ _ _ _ _ _ (Nat.le_refl _) zE hs h1.1) (permIn_mono _ _ _ _ _ _ zE (Nat.le_refl _) (by rw [s1]; exact hs) h2.1)⟩
 ·rw [h2.1.2.1 p zE,h2.1.2.1 q zE]; exact h1.2 p q p1 p2 p3
 ·have e1:idx d'[p]! <20:=by
   rw [h2.1.2.1 p zE]
   exact permIn_all d d1 0 20 (fun x=>idx x<20) zE h1.1 (fun i i1 i2=>by show idx d[i]! <20; rw [hi i zE]; exact i2) p p1 p2
  have e2:20≤idx d'[q]! :=by
   refine permIn_all d1 d' 20 N (fun x=>20≤idx x) (by rw [s1]; exact hs) h2.1 (fun i i1 i2=> ?_) q p3 p4
   show 20≤idx d1[i]!
   rw [h1.1.2.1 i (.inr i1),hi i i2]; exact i1
  omega
set_option maxHeartbeats 16000000 in
theorem stable (enc:α→Value) (key:α→Int) (idx:α→Nat) (g:Nat) (cb:Array Value) (blk off cap N:Nat) (d:Array α) (w:World)
  (eg:∀args w,(callFunc g args).run Try.prog w= .ok (.enter g args) w) (hcmp:CmpLays1 Try.prog g cb enc (cfk key) blk off N w)
  (R1:Row1 enc w blk off d) (hN:d.size=N) (hN40:N≤40) (hi:∀p,p<N→idx d[p]! =p):
  Calls Try.prog 57 #[.slice (some ⟨blk,off,none⟩) N cap,.int .i64 N,.func (.func g) #[] cb] w fun e w'=>e= .returned (.tuple #[])∧∃d',Post key idx 0 N d d'∧d'.size=N∧SW enc w blk off d' w':=by
 have hu26:=Try.underlying26
 have HC:Aside _:=hcmp
 have S0:Aside (SW enc w blk off d w):=SW.start R1.hH
 have HR1:Aside _:=R1
 have HI:Aside (∀p,p<N→idx d[p]! =p):=hi
 clear hcmp hi
 have R1:=HR1
 clear R1
 go_enter Try.func57,Try.ntmps57
 go_wp2
 go_loopg [7,8] (40-0) (fun kx s7 s8 wr=>∃(a:Nat) (dk:Array α),s7= .int .i64 a∧s8= .int .i64 ((a:Int)+20)∧a≤N∧40-a≤kx∧Aside (Blk key idx d a dk)∧dk.size=N∧Aside (SW enc w blk off dk wr))
 case atStart=>exact ⟨0,d,rfl,rfl,by omega,by omega,.inl ⟨rfl,rfl⟩,hN,S0⟩
 case round=>
  clear S0
  obtain ⟨a,dk,rfl,rfl,haN,hkx,HB,hdk,S1⟩:=hrel
  by_cases hlt:a+20≤N
  ·have hltz:(a:Int)+20≤(N:Int):=by omega
   have hcall:=insertion enc key idx g cb blk off cap N a (a+20) d dk w wr eg HC.out HR1.out hN hdk S1.out zE zE zE (HB.out.stab HI.out zE)
   rw [show ((a+20:Nat):Int)=(a:Int)+20 by omega] at hcall
   clear S1
   go_wp2_with (go_at_call 64; refine hcall.mono ?_; rintro e1 w1 ⟨rfl,d1,hP,hd1,S3⟩)
   go_roundg (40-(a+20))
   case measure=>omega
   case rel=>exact ⟨a+20,d1,by go_num,by first|go_num|(congr 1; omega),hlt,Nat.le_refl _,HB.out.step zE hP,hd1,S3⟩
  ·have hltz :¬(a:Int)+20≤(N:Int):=by omega
   have hcall:=insertion enc key idx g cb blk off cap N a N d dk w wr eg HC.out HR1.out hN hdk S1.out haN (Nat.le_refl _) zE (HB.out.stab HI.out (Nat.le_refl _))
   clear S1
   go_wp2_with (go_at_call 64; refine hcall.mono ?_; rintro e1 w1 ⟨rfl,d1,hP,hd1,S3⟩)
   have HD:Aside ((N≤20∧Post key idx 0 N d d1)∨(20<N∧Pre key idx 0 20 N d1∧PermIn 0 N d d1)):=by
    by_cases h:N≤20
    ·exact .inl ⟨h,HB.out.one haN h hP⟩
    ·exact .inr ⟨by omega,HB.out.two haN zE zE hN40 zE HI.out hP⟩
   clear hP HB
   have S1:Aside _:=S3
   clear S3
   clear hltz hlt haN
   go_loopg [6,7,8,9] 1 (fun kx s6 s7 s8 s9 wr=>∃(d2:Array α),Aside ((s6= .int .i64 20∧N≤20∧Post key idx 0 N d d2)∨(s6= .int .i64 40∧Post key idx 0 N d d2)∨(s6= .int .i64 20∧kx=1∧20<N∧Pre key idx 0 20 N d2∧PermIn 0 N d d2))∧d2.size=N∧Aside (SW enc w blk off d2 wr))
   case atStart=>exact ⟨d1,HD.out.elim (fun h=> .inl ⟨rfl,h⟩) (fun h=> .inr (.inr ⟨rfl,rfl,h⟩)),hd1,S1⟩
   case round=>
    clear S1 HD
    obtain ⟨d2,HD,hd2,S1⟩:=hrel
    rcases HD.out with ⟨rfl,h20,hQ⟩|⟨rfl,hQ⟩|⟨rfl,hk1,h20,hPre,hPm⟩
    ·have HQ:Aside _:=hQ
     have hltz:¬(20:Int)<(N:Int):=by omega
     clear HD hQ
     go_wp2
     go_end0
     exact ⟨rfl,d2,HQ.out,hd2,S1.out⟩
    ·have HQ:Aside _:=hQ
     have hltz:¬(40:Int)<(N:Int):=by omega
     clear HD hQ
     go_wp2
     go_end0
     exact ⟨rfl,d2,HQ.out,hd2,S1.out⟩
    ·have HPre:Aside _:=hPre
     have HPm:Aside _:=hPm
     have hltz:(20:Int)<(N:Int):=by omega
     have hltb:decide ((20:Int)<(N:Int))=true:=decide_eq_true zE
     clear HD hPre hPm
     go_wp2
     go_loopg [7,8] 1 (fun ky s7 s8 wr=>∃(d3:Array α),Aside ((s7= .int .i64 0∧s8= .int .i64 40∧ky=1∧d3=d2)∨(s7= .int .i64 40∧s8= .int .i64 80∧40≤N∧Post key idx 0 N d d3))∧d3.size=N∧Aside (SW enc w blk off d3 wr))
     case atStart=>exact ⟨d2,.inl ⟨rfl,rfl,rfl,rfl⟩,hd2,S1⟩
     case round=>
      clear S1
      obtain ⟨d3,HD3,hd3,S1⟩:=hrel
      rcases HD3.out with ⟨rfl,rfl,hky,rfl⟩|⟨rfl,rfl,h40,hQ⟩
      ·clear HD3
       by_cases h40:40≤N
       ·have h40z:(40:Int)≤(N:Int):=by omega
        have eN:N=40:=by omega
        have EN:Aside (N=40):=eN
        have hcall:=El enc key idx g cb blk off cap N d w eg HC.out HR1.out hN zE 40 0 20 40 d3 wr zE hd3 S1.out zE zE h40 (by have:=HPre.out; rw [eN] at this; exact this)
        rw [show ((0:Nat):Int)=0 from rfl,show ((20:Nat):Int)=20 from rfl,show ((40:Nat):Int)=40 from rfl] at hcall
        clear S1 eN
        go_wp2_with (go_at_call 65; refine hcall.mono ?_; rintro e1 w1 ⟨rfl,d4,hQ,hd4,S3⟩)
        go_roundg 0
        case measure=>omega
        case rel=>exact ⟨d4,.inr ⟨by go_num,by go_num,h40,by have h5:=permIn_trans _ _ _ _ _ HPm.out (show PermIn 0 N d3 d4 by rw [EN.out]; exact hQ.1); rw [EN.out] at h5 ⊢; exact ⟨h5,hQ.2⟩⟩,hd4,S3⟩
       ·have h40z:¬(40:Int)≤(N:Int):=by omega
        have hcall:=El enc key idx g cb blk off cap N d w eg HC.out HR1.out hN zE 40 0 20 N d3 wr zE hd3 S1.out zE zE (Nat.le_refl _) HPre.out
        rw [show ((0:Nat):Int)=0 from rfl,show ((20:Nat):Int)=20 from rfl] at hcall
        clear S1
        go_wp2_with (go_at_call 65; refine hcall.mono ?_; rintro e1 w1 ⟨rfl,d4,hQ,hd4,S3⟩)
        go_roundg 0
        case measure=>omega
        case rel=>exact ⟨d4,.inr (.inl ⟨by go_num,permIn_trans _ _ _ _ _ HPm.out hQ.1,hQ.2⟩),hd4,S3⟩
      ·have HQ:Aside _:=hQ
       have h80z:¬(80:Int)≤(N:Int):=by omega
       have h60z:¬(60:Int)<(N:Int):=by omega
       clear HD3 hQ
       go_wp2
       go_roundg 0
       case measure=>omega
       case rel=>exact ⟨d3,.inr (.inl ⟨by go_num,HQ.out⟩),hd3,S1⟩
set_option maxHeartbeats 4000000 in
theorem sortStable (enc:α→Value) (key:α→Int) (idx:α→Nat) (g:Nat) (cb:Array Value) (blk off cap N:Nat) (d:Array α) (w:World)
  (eg:∀args w,(callFunc g args).run Try.prog w= .ok (.enter g args) w) (hcmp:CmpLays1 Try.prog g cb enc (cfk key) blk off N w)
  (R1:Row1 enc w blk off d) (hN:d.size=N) (hN40:N≤40) (hi:∀p,p<N→idx d[p]! =p):
  Calls Try.prog 40 #[.slice (some ⟨blk,off,none⟩) N cap,.func (.func g) #[] cb] w fun e w'=>e= .returned (.tuple #[])∧∃d',Post key idx 0 N d d'∧d'.size=N∧SW enc w blk off d' w':=by
 have hcall:=stable enc key idx g cb blk off cap N d w eg hcmp R1 hN hN40 hi
 clear hcmp R1 hi
 go_enter Try.func40,Try.ntmps40
 go_wp2_with (go_at_call 57; refine hcall.mono ?_; rintro e1 w1 ⟨rfl,d4,hQ,hd4,S3⟩)
 go_end0
 exact ⟨rfl,d4,hQ,hd4,S3⟩
end Go.Proofs.StSort
end
section
namespace Go.Proofs.Ytdadecjefafflaa.PLst
set_option maxRecDepth 100000
open Go.RowKit Go.Proofs.YtdadecjefafflaaW.PrintWords Go.Proofs.YtdadecjefafflaaW.PrintLast Go.Proofs.YtdadecjefafflaaW.PrintMore
attribute [local go_sem] Bd Bb Bm Bk BU BT Bc Ba
attribute [local go_sem high] eqA54
set_option maxHeartbeats 4000000 in
theorem GL (m:Int) (A1:Option Addr) (c1:Nat) (ts:List S64) (g:Nat) (x y:Int) (W:World) (hx0:0≤x) (hx1:x<(ts.length:Int)) (hy0:0≤y) (hy1:y<(ts.length:Int)) (hr:Kd.C k64 W A1 ts.length ts)
  (hb:W.heap[g]? =some (.cells #[.int .i64 m,.slice A1 ts.length c1] 34 (0,0))):
  Calls Try.prog 41 #[.int .i64 x,.int .i64 y,.pointer (some ⟨g,0,none⟩)] W fun e w'=>e= .returned (.int .i64 (wrap64 ((AM ts x).f2-(AM ts y).f2)))∧∃q,w'=W.drewN q:=by
 obtain ⟨ad,A3,c3,e1,hc0,hc1,hc2,hc3,_,_⟩:=C6 hr x hx0 hx1
 obtain ⟨ad',A3',c3',e2,hd0,hd1,hd2,hd3,_,_⟩:=C6 hr y hy0 hy1
 subst e1
 cases e2
 have hbx:W.cell? ⟨g,1,none⟩=some (.slice (some ad) ts.length c1):=(AK hb 1).trans rfl
 have mixed:Try.prog.follows .mixedOrders=true:=by kernel_rfl
 have hu34:=Try.underlying34
 have hu64:=Try.underlying64
 have hu32:=Try.underlying32
 generalize (AM ts x).f2=dx at hc2 ⊢
 generalize (AM ts y).f2=dy at hd2 ⊢
 clear hb hr hc0 hc1 hc3 hd0 hd1 hd3
 go_enter Try.func41,Try.ntmps41
 go_wp2_with fail
 go_big_region_o
 go_wp2
 go_ret
 exact ⟨rfl,⟨_,rfl⟩⟩
theorem F8 {w:World} {base:Nat} {ok:Nat→Prop} {ps:List Int} {cs:List Value} :Reps ((Kd.int .i64).M w base ok) 1 ps cs↔cs=ps.map (Value.int .i64):=by
 constructor
 ·rintro ⟨h1,h2⟩
  apply List.ext_getElem?
  intro j
  by_cases hj:j<ps.length
  ·have e:=h2 j ps[j] (List.getElem?_eq_getElem hj)
   have e:(cs.drop (j*1)).take 1=[.int .i64 ps[j]]:=e
   have e2:((cs.drop (j*1)).take 1)[0]? =some (Value.int .i64 ps[j]):=by rw [e]; rfl
   rw [List.getElem?_take,if_pos zE,List.getElem?_drop] at e2
   rw [List.getElem?_map,List.getElem?_eq_getElem hj]
   simpa using e2
  ·rw [List.getElem?_eq_none zE,List.getElem?_eq_none (by simp; omega)]
 ·rintro rfl
  refine ⟨by simp,fun j p hp=> ?_⟩
  show ((ps.map (Value.int .i64)).drop (j*1)).take 1=[.int .i64 p]
  obtain ⟨hj,e⟩:=List.getElem?_eq_some_iff.mp hp
  rw [Nat.mul_one,List.drop_eq_getElem_cons (by simpa using hj)]
  simp [e]
theorem DE {w:World} {base:Nat} {ok:Nat→Prop} {v:Value} {l:List Int} (h:(Kd.int .i64).R 3 w base ok v l):w.ownsRow base 3 1 v l.length (l.map (Value.int .i64)):=by
 obtain ⟨inner,ho,hr⟩:=h.2
 rw [←F8.mp hr]; exact ho
theorem R_of_own {w:World} {base:Nat} {ok:Nat→Prop} {v:Value} {l:List Int} (h0:∀k,v.ownBlock=some k→ok k) (h:w.ownsRow base 3 1 v l.length (l.map (Value.int .i64))):(Kd.int .i64).R 3 w base ok v l:=
 ⟨h0,_,h,F8.mpr rfl⟩
def BQ (ts:List S64) (l:List Int):List Int:=l.mergeSort (fun x y=>decide ((AM ts x).f2<(AM ts y).f2∨((AM ts x).f2=(AM ts y).f2∧x≤y)))
def ES (ts:List S64) (l:List Int):Prop:=ts.length≤40∧l=(List.range ts.length).map Int.ofNat∧∀t∈ts,0≤t.f2∧t.f2≤1000000
instance (ts:List S64) (l:List Int):Decidable (ES ts l):=by unfold ES; infer_instance
def Cc.f (l:List Int) (m:Int) (ts:List S64):Option (List Int):=if ES ts l then some (BQ ts l) else none
def encF {n:Nat} (x:Fin (n+1)):Value:= .int .i64 (x.val:Int)
def keyF (ts:List S64) {n:Nat} (x:Fin (n+1)):Int:=(AM ts (x.val:Int)).f2
theorem G0 {ts:List S64} (h:∀t∈ts,0≤t.f2∧t.f2≤1000000) (x:Int) (h0:0≤x) (h1:x<(ts.length:Int)):0≤(AM ts x).f2∧(AM ts x).f2≤1000000:=by
 unfold AM
 rw [List.getD_eq_getElem?_getD,List.getElem?_eq_getElem (show x.toNat<ts.length by omega)]
 exact h _ (List.getElem_mem _)
theorem FP {ts:List S64} {n:Nat} {d':Array (Fin (n+1))} (hp:StSort.Post (keyF ts) (fun x=>x.val) 0 (n+1) (List.finRange (n+1)).toArray d') (hs:d'.size=n+1):
  d'.toList.map (fun x=>(x.val:Int))=BQ ts ((List.range (n+1)).map Int.ofNat):=by
 have hfr:(List.finRange (n+1)).map (fun x=>(x.val:Int))=(List.range (n+1)).map Int.ofNat:=by
  apply List.ext_getElem
  ·simp
  ·intro i h1 h2; simp
 have hperm:d'.toList.Perm (List.finRange (n+1)):=by
  have h:=hp.1.2.2
  have e1:d'.extract 0 (n+1)=d':=by have:=Array.extract_size (xs:=d'); rwa [hs] at this
  have e2:(List.finRange (n+1)).toArray.extract 0 (n+1)=(List.finRange (n+1)).toArray:=by
   have:=Array.extract_size (xs:=(List.finRange (n+1)).toArray)
   simpa using this
  rw [e1,e2] at h
  exact h
 unfold BQ
 rw [←hfr]
 refine List.Perm.eq_of_pairwise (le:=fun x y=>decide ((AM ts x).f2<(AM ts y).f2∨((AM ts x).f2=(AM ts y).f2∧x≤y))=true) ?_ ?_ ?_ ((hperm.map _).trans (List.mergeSort_perm _ _).symm)
 ·intro a b _ _ h1 h2
  simp only [decide_eq_true_eq] at h1 h2
  omega
 ·rw [List.pairwise_map,List.pairwise_iff_getElem]
  intro i j hi hj hij
  have hi':i<d'.size:=by simpa using hi
  have hj':j<d'.size:=by simpa using hj
  have:=hp.2 i j (Nat.zero_le _) hij zE
  rw [getElem!_pos d' j hj',getElem!_pos d' i hi'] at this
  unfold StSort.R keyF at this
  have this:(AM ts (d'[i].val:Int)).f2<(AM ts (d'[j].val:Int)).f2∨(AM ts (d'[i].val:Int)).f2=(AM ts (d'[j].val:Int)).f2∧d'[i].val<d'[j].val:=this
  simp only [decide_eq_true_eq]
  simp only [Array.getElem_toList]
  omega
 ·refine List.pairwise_mergeSort ?_ ?_ _
  ·intro a b c h1 h2
   simp only [decide_eq_true_eq] at h1 h2 ⊢
   omega
  ·intro a b
   simp only [Bool.or_eq_true,decide_eq_true_eq]
   omega
open Go.Shelf Go.Lib Go.Sort in
set_option maxHeartbeats 4000000 in
theorem GW (p:Option Addr) (cap:Nat) (fv:Value) (w:World):Calls Try.prog 40 #[.slice p 0 cap,fv] w fun e w'=>e= .returned (.tuple #[])∧w'=w:=by
 have hi:∀W,Calls Try.prog 64 #[.slice p 0 cap,.int .i64 0,.int .i64 0,fv] W fun e w'=>e= .returned (.tuple #[])∧w'=W:=fun W=>by
  go_enter Try.func64,Try.ntmps64
  go_wp2
  refine wp_loop_rounds 1 ?_
  rw [rounds_succ]
  go_wp2
  go_end0
  exact ⟨rfl,rfl⟩
 have hs:Calls Try.prog 57 #[.slice p 0 cap,.int .i64 0,fv] w fun e w'=>e= .returned (.tuple #[])∧w'=w:=by
  go_enter Try.func57,Try.ntmps57
  go_wp2
  refine wp_loop_rounds 1 ?_
  rw [rounds_succ]
  go_wp2_with (go_at_call 64; refine (hi _).mono ?_; rintro e w' ⟨rfl,rfl⟩)
  refine wp_loop_rounds 1 ?_
  rw [rounds_succ]
  go_wp2
  go_end0
  exact ⟨rfl,rfl⟩
 go_enter Try.func40,Try.ntmps40
 go_wp2_with (go_at_call 57; refine hs.mono ?_; rintro e w' ⟨rfl,rfl⟩)
 go_end0
 exact ⟨rfl,rfl⟩
open Go.Shelf Go.Lib Go.Sort in
theorem GX {w W:World} {ok:Nat→Prop} {v:Value} {l:List Int} {m:Int} {A1:Option Addr} {c1:Nat} {ts:List S64} {g:Nat} {r:List Int} (hR:(Kd.int .i64).R 3 W w.heap.size ok v l) (hr:Kd.C k64 w A1 ts.length ts) (hB:Below w.heap.size w W)
  (hb:W.heap[g]? =some (.cells #[.int .i64 m,.slice A1 ts.length c1] 34 (0,0))) (h:Cc.f l m ts=some r):
  Calls Try.prog 40 #[v,.func (.func 41) #[] #[.pointer (some ⟨g,0,none⟩)]] W fun e w'=>e= .returned (.tuple #[])∧(Kd.int .i64).R 3 w' w.heap.size ok v r∧Below w.heap.size w w'∧w'.heap[g]? =some (.cells #[.int .i64 m,.slice A1 ts.length c1] 34 (0,0)):=by
 unfold Cc.f at h
 by_cases hk:ES ts l
 ·rw [if_pos hk] at h
  cases h
  obtain ⟨h40,hl,hd⟩:=hk
  rcases Nat.eq_zero_or_pos ts.length with hn|hn0
  ·rw [hn] at hl
   have hl:l=[]:=hl
   subst hl
   have hv:∃p c,v= .slice p 0 c:=by
    obtain ⟨A,c,e⟩:=Kd.R_slice hR
    exact ⟨A,c,e⟩
   obtain ⟨p,c,rfl⟩:=hv
   refine (GW p c _ W).mono ?_
   rintro e w' ⟨rfl,rfl⟩
   refine ⟨rfl,?_,hB,hb⟩
   have e:BQ ts []=[]:=by unfold BQ; simp
   rw [e]; exact hR
  ·obtain ⟨n,hn⟩:∃n,ts.length=n+1:=⟨ts.length-1,by omega⟩
   have hlz:l.length=n+1:=by rw [hl]; simp [hn]
   have hz:l.map (Value.int .i64)=(List.finRange (n+1)).map encF:=by
    rw [hl,hn]
    apply List.ext_getElem
    ·simp
    ·intro i h1 h2; simp [encF]
   have hown:=DE hR
   rw [hlz,hz] at hown
   have hv:v≠ .slice none 0 0:=by
    rintro rfl
    obtain ⟨A,c,e⟩:=Kd.R_slice hR
    injection e with _ e2 _
    omega
   obtain ⟨g',cap,rfl,hbase,hlt,hncap,hcm,hzl,hH⟩:=holds_of_ownsRow hown hv
   have hgg:g≠g':=by
    rintro rfl
    obtain ⟨cells,hc⟩:=CX hown g rfl
    rw [hb] at hc
    injection hc with hc
    injection hc with _ hc
    exact absurd hc zA0
   have hglt:g<W.heap.size:=by
    rcases Nat.lt_or_ge g W.heap.size with h'|h'
    ·exact h'
    ·rw [Array.getElem?_eq_none h'] at hb; cases hb
   have hput:∀(mm:Nat) (os:Array Obj) (dk:Array (Fin (n+1))),Below w.heap.size w (sortWorld encF W g' 0 mm dk os)∧(sortWorld encF W g' 0 mm dk os).heap[g]? =some (.cells #[.int .i64 m,.slice A1 ts.length c1] 34 (0,0)):=fun mm os dk=>by
    have b1:Below w.heap.size w (putRow encF (Sort.ahead W mm) g' 0 dk):=below_putRow hB hbase
    have s1:(putRow encF (Sort.ahead W mm) g' 0 dk).heap.size=W.heap.size:=size_putRow _ _ _ _ _
    refine ⟨b1.trans (below_grow _ (putRow encF (Sort.ahead W mm) g' 0 dk) b1.size 0 os),?_⟩
    unfold sortWorld
    rw [heap_grow_old _ _ (by rw [s1]; exact hglt),←hb]
    simp [putRow,mapBlock,Sort.ahead,Array.getElem?_modify,Ne.symm hgg]
   have hcmp:CmpLays1 Try.prog 41 #[.pointer (some ⟨g,0,none⟩)] encF (StSort.cfk (keyF ts)) g' 0 (n+1) W:=fun mm os dk hs x y=>by
    obtain ⟨hb2,hg2⟩:=hput mm os dk
    refine (GL m A1 c1 ts g (x.val:Int) (y.val:Int) _ zE (by have:=x.isLt; omega) zE (by have:=y.isLt; omega) (Kd.C_below hr hb2) hg2).mono ?_
    rintro e w' ⟨rfl,q,rfl⟩
    refine ⟨?_,q,#[],(grow_empty _).symm⟩
    have e1:=G0 hd (x.val:Int) zE (by have:=x.isLt; omega)
    have e2:=G0 hd (y.val:Int) zE (by have:=y.isLt; omega)
    unfold StSort.cfk keyF
    rw [show wrap64 ((AM ts (x.val:Int)).f2-(AM ts (y.val:Int)).f2)=(AM ts (x.val:Int)).f2-(AM ts (y.val:Int)).f2 by unfold wrap64; omega]
   refine (StSort.sortStable encF (keyF ts) (fun x=>x.val) 41 #[.pointer (some ⟨g,0,none⟩)] g' 0 cap (n+1) (List.finRange (n+1)).toArray W (enters_of Try.func41 zI rfl) hcmp ⟨fun _=>rfl,hH,hlt⟩ zA5 zE (fun p hp=>by rw [getElem!_pos _ p (by simpa using hp)]; simp)).mono ?_
   rintro e w' ⟨rfl,d',hP,hs,mm,os,rfl⟩
   obtain ⟨hb2,hg2⟩:=hput mm os d'
   refine ⟨rfl,?_,hb2,hg2⟩
   have hd':d'.toList.length=n+1:=by simpa using hs
   have h1:=ownsRow_putRow (q:=mm) (k:=n+1) hown hd' (Nat.le_refl _)
   rw [List.take_of_length_le zE] at h1
   have h2:(sortWorld encF W g' 0 mm d' os).ownsRow w.heap.size 3 1 (.slice (some ⟨g',0,none⟩) (n+1) cap) (n+1) (d'.toList.map encF):=by
    refine F3 h1 (fun k hk=> ?_)
    have hk':g'=k:=by simpa [Value.ownBlock] using hk
    subst hk'
    unfold sortWorld
    exact heap_grow_old _ _ (by rw [size_putRow]; exact hlt)
   have e1:(BQ ts l).map (Value.int .i64)=d'.toList.map encF:=by
    rw [hl,hn,←FP hP hs,List.map_map]
    rfl
   have e2:(BQ ts l).length=n+1:=by
    have:=congrArg List.length e1
    simpa [hs] using this
   refine R_of_own hR.1 ?_
   rw [e2,e1]
   exact h2
 ·rw [if_neg hk] at h; cases h
def B2.l0:Nat→List Int→Int→Int→Int→List (S64)→Option (List Int×Int)
 |0,_,_,_,_,_=>none
 |k+1,x4,x11,x12,x316000,x316001=>if x12<x11 then (if x4.length<17592186044416 then (B2.l0 k (x4++[x12]) x11 (wrap64 (x12+1)) x316000 x316001) else (none)) else ((Cc.f x4 x316000 x316001).bind fun t320=>(some (t320,0)))
def B2.f (k:Nat) (A8:Int) (l0_1:List (S64)):Option (List Int×Int):=(AN.f k A8 l0_1).bind fun t316=>(if t316=true then (B2.l0 k ([]:List Int) (l0_1.length:Int) 0 A8 l0_1) else (some (([]:List Int),1)))
set_option maxHeartbeats 8000000 in
theorem B2.calls (k:Nat) (A8:Int) (A0_1:Option Addr) (c0_1:Nat) (l0_1:List (S64)) (r1:List Int) (r2:Int) (w:World) (hr0_1:Kd.C k64 w A0_1 l0_1.length l0_1) (hc0_1:l0_1.length≤c0_1) (h:B2.f k A8 l0_1=some (r1,r2)):
  Calls Try.prog 24 #[.agg #[.int .i64 A8,.slice A0_1 l0_1.length c0_1]] w fun e w'=>∃v0_:Value,e= .returned (.tuple #[v0_,.int .i64 r2])∧Kd.R (Kd.int .i64) 3 w' w.heap.size (fun _=>True) v0_ r1∧Below w.heap.size w w':=by
 have hu34:=Try.underlying34
 have HR0_1:=yA hr0_1
 have HC0_1:=yA hc0_1
 clear hr0_1 hc0_1
 have HB:=yA (Below.refl w.heap.size w)
 have H:((AN.f k A8 l0_1).bind fun t316=>(if t316=true then (B2.l0 k ([]:List Int) (l0_1.length:Int) 0 A8 l0_1) else (some (([]:List Int),1))))=some (r1,r2):=h
 clear h
 replace H:=Option.bind_eq_some_iff.mp H
 obtain ⟨t316,A20,H⟩:=H
 replace H:(if t316=true then (B2.l0 k ([]:List Int) (l0_1.length:Int) 0 A8 l0_1) else (some (([]:List Int),1)))=some (r1,r2):=H
 have A2:=yA A20
 clear A20
 by_cases c3:t316=true
 ·subst c3
  have H1:(B2.l0 k ([]:List Int) (l0_1.length:Int) 0 A8 l0_1)=some (r1,r2):=by rw [if_pos rfl] at H; exact H
  clear H
  have H:=H1
  clear H1
  have H':=yA H
  clear H
  go_enter Try.func24,Try.ntmps24
  go_wp2_with (first|((with_reducible refine Aq (N:=1) rfl ?_); refine Av ?hg (N:=1) ?hd (cs:= #[.int .i64 A8,.slice A0_1 l0_1.length c0_1]) (t:=34) ?hr ?_; (case hd=>rfl); (case hg=>rfl); (case hr=>first|(go_simp; done)|(go_simp; rfl)); intro gb315 hg w4 hbox hb; have n0_:=yA (AO zB hb); have n1_:=yA (hbox); have n2_:=yA ((by rw [hg]; exact (AQ zB):w.heap.size≤gb315)); have n3_:=yA ((by rw [hg]; exact (AQ zB):w.heap.size≤gb315)); clear HB; have HB:=n0_; have BK315:=n1_; have GW315:=n2_; have GE315:=n3_; clear n0_ n1_ n2_ n3_; clear hb hbox hg; have hcz5_0:w4.cell? ⟨gb315,0,none⟩=some (.int .i64 A8):=(AK BK315.out 0).trans rfl; have hcz5_1:w4.cell? ⟨gb315,1,none⟩=some (.slice A0_1 l0_1.length c0_1):=(AK BK315.out 1).trans rfl; have hfz5_0:=AJ BK315.out 0; have hfz5_1:=AJ BK315.out 1)|((with_reducible refine Ae (f:=29) rfl ?_); refine B6 (some 7) rfl rfl Try.func29 zI rfl #[.agg #[.int .i64 A8,.slice A0_1 l0_1.length c0_1]] rfl zD ?_; (with_reducible refine (AN.calls k A8 _ _ l0_1 true _ ?side1 ?side2 A2.out).mono ?_); (case side1=>repeat (first|exact (Kd.C_below HR0_1.out HB.out)|(with_reducible refine Kd.C_alloc ?_ _)|(with_reducible refine Kd.C_drewN ?_ _)|(with_reducible refine Kd.C_drew ?_))); (case side2=>exact HC0_1.out); rintro e w6 ⟨rfl,hb⟩; refine ⟨_,rfl,?_⟩; have n0_:=yA (AP (g:=gb315) (o:= .cells #[.int .i64 A8,.slice A0_1 l0_1.length c0_1] 34 (0,0)) (by (with_reducible repeat (first|refine AF ?_ _|refine AH ?_|refine AG ?_ _)); exact BK315.out) hb); have n1_:=yA (AO zD7 hb); clear BK315; clear HB; have BK315:=n0_; have HB:=n1_; clear n0_ n1_; (try clear hb); (try clear hb2); (try clear hk); (try clear hi); have hcz7_0:w6.cell? ⟨gb315,0,none⟩=some (.int .i64 A8):=(AK BK315.out 0).trans rfl; have hcz7_1:w6.cell? ⟨gb315,1,none⟩=some (.slice A0_1 l0_1.length c0_1):=(AK BK315.out 1).trans rfl; have hfz7_0:=AJ BK315.out 0; have hfz7_1:=AJ BK315.out 1))
  go_loopg [4,12] k (fun kq v4 v12 w'=>∃(x4_1:List Int) (x12_1:Int),v12= .int .i64 x12_1∧Aside0 (B2.l0 kq x4_1 (l0_1.length:Int) x12_1 A8 l0_1=some (r1,r2))∧Aside0 (kq≤k)∧Aside0 (Kd.R (Kd.int .i64) 3 w' w.heap.size (fun _=>True) v4 x4_1)∧Aside0 (w'.heap[gb315]? =some (.cells #[.int .i64 A8,(.slice A0_1 l0_1.length c0_1)] 34 (0,0)))∧Aside0 (Below w.heap.size w w'))
  case atStart=>exact ⟨(([]:List Int)),(0),zH,H',⟨Nat.le_refl _⟩,⟨by first|exact Kd.R_nil _ _ _ _ _|exact Kd.N_nil _ _ _ _ _|exact Kd.V_nil _ _ _ _ _|exact Kd.Q_nil _ _ _ _ _|exact Kd.S_nil _ _ _ _ _⟩,⟨by (with_reducible repeat (first|refine AF ?_ _|refine AH ?_|refine AG ?_ _)); exact BK315.out⟩,⟨by repeat (first|(with_reducible first|exact HB.out|apply AE|apply AC|apply AD|refine AI ?_ GE315.out)|exact HB.out)⟩⟩
  case round=>
   clear H'
   try clear c2
   try clear p2
   try clear c3
   try clear hcz5_0
   try clear hcz5_1
   try clear hcz7_0
   try clear hcz7_1
   try clear hfz5_0
   try clear hfz5_1
   try clear hfz7_0
   try clear hfz7_1
   obtain ⟨x4_1,x12_1,rfl,HA,HK1,HO_4,BK315,HB⟩:=hrel
   cases gk with
   |zero=>exact absurd HA.out (by simp [B2.l0])
   | succ k1=>
    have H:=HA.out
    clear HA
    simp only [B2.l0] at H
    by_cases c8:x12_1<(l0_1.length:Int)
    ·rw [if_pos c8] at H
     have c8b0:decide (x12_1<(l0_1.length:Int))=true:=decide_eq_true c8
     clear c8
     by_cases c9:x4_1.length<17592186044416
     ·rw [if_pos c9] at H
      have LMc9:=yA c9
      clear c9
      obtain ⟨y317,hy317⟩:∃y_:List Int,y_=(x4_1++[x12_1]):=⟨_,rfl⟩
      replace H:(B2.l0 k1 y317 (l0_1.length:Int) (wrap64 (x12_1+1)) A8 l0_1)=some (r1,r2):=by first|(rw [hy317]; with_reducible exact H)|(have H2_:=(Option.bind_some _ _).symm.trans H; rw [hy317]; with_reducible exact H2_)|(have H2_:=(Option.bind_some _ _).symm.trans H; with_reducible exact H2_)|with_reducible exact H|(rw [hy317]; exact H)|exact H
      have Ny317:=yA hy317
      clear hy317
      have H':=yA H
      clear H
      go_wp2_with (first|((with_reducible refine CB (b:= .append) (xs:= #[.tmp 15,.tmp 17]) rfl ?_); at_builtin; refine Kd.R_append (Kd.int .i64) (w0:=w) w.heap.size rfl (.tmp 15) (.tmp 17) 26 3 (.int .i64 0) 8 rfl Try.underlying26 info3 rfl zA0 zE u4 x4_1 x12_1 [.int .i64 x12_1] (fun _=>True) (fun _=>False) rfl rfl ?aP (fun _ hk=>hk.elim) ?aF ?aO ?aB ?aS ?aL ?_; (case aP=>exact rfl); (case aB=>exact zD7); (case aF=>exact (fun _ _=>trivial)); (case aO=>exact zB7); (case aS=>exact (AQ zD7)); (case aL=>have:=LMc9.out; omega); intro v318 w10 ho hb hg hat; rw [←Ny317.out] at ho; have n0_:=yA (BJ (g:=gb315) (o:= .cells #[.int .i64 A8,.slice A0_1 l0_1.length c0_1] 34 (0,0)) (by (with_reducible repeat (first|refine AF ?_ _|refine AH ?_|refine AG ?_ _)); exact BK315.out) hg (Kd.R_ne HO_4.out BK315.out zA0)); have n1_:=yA (hb); have n2_:=yA (ho); clear BK315; clear HB; clear HO_4; have BK315:=n0_; have HB:=n1_; have HO319:=n2_; clear n0_ n1_ n2_; clear ho hb hg hat))
      go_roundg k1
      case measure=>have:=HK1.out; omega
      case rel=>exact ⟨(y317),(wrap64 (x12_1+1)),zH,H',⟨by have:=HK1.out; omega⟩,⟨by (with_reducible repeat (first|apply Kd.R_alloc|apply Kd.R_drewN|apply Kd.R_drew)); exact HO319.out⟩,⟨by (with_reducible repeat (first|refine AF ?_ _|refine AH ?_|refine AG ?_ _)); exact BK315.out⟩,⟨by repeat (first|(with_reducible first|exact HB.out|apply AE|apply AC|apply AD|refine AI ?_ GE315.out)|exact HB.out)⟩⟩
     ·rw [if_neg c9] at H
      exact absurd H zA5
    ·rw [if_neg c8] at H
     have c8b0:decide (x12_1<(l0_1.length:Int))=false:=decide_eq_false c8
     clear c8
     replace H:=Option.bind_eq_some_iff.mp H
     obtain ⟨t320,A110,H⟩:=H
     replace H:(some (t320,0))=some (r1,r2):=H
     have A11:=yA A110
     clear A110
     simp only [Option.some.injEq,Prod.mk.injEq] at H
     obtain ⟨rfl,rfl⟩:=H
     have hcz12_0:wr.cell? ⟨gb315,0,none⟩=some (.int .i64 A8):=(AK BK315.out 0).trans rfl
     have hcz12_1:wr.cell? ⟨gb315,1,none⟩=some (.slice A0_1 l0_1.length c0_1):=(AK BK315.out 1).trans rfl
     have hfz12_0:=AJ BK315.out 0
     have hfz12_1:=AJ BK315.out 1
     obtain ⟨Ao13,co13,eo13⟩:=Kd.R_slice HO_4.out
     subst eo13
     go_wp2_with (first|((with_reducible refine Ae (f:=40) rfl ?_); refine B6 (some 22) rfl rfl Try.func40 zI rfl #[.slice Ao13 x4_1.length co13,.func (.func 41) #[] #[.pointer (some ⟨gb315,0,none⟩)]] rfl (by (try simp only [List.map_toArray,List.map_cons,List.map_nil]); first|done|rfl) ?_; refine (GX (w:=w) zB7 HR0_1.out zD7 (by (with_reducible repeat (first|refine AF ?_ _|refine AH ?_|refine AG ?_ _)); exact BK315.out) A11.out).mono ?_; rintro e w14 ⟨rfl,ho0,hb,hbk⟩; refine ⟨_,rfl,?_⟩; have n1_:=yA ho0; have n2_:=yA hbk; have n3_:=yA hb; clear HO_4; clear BK315; clear HB; have HO322:=n1_; have BK315:=n2_; have HB:=n3_; clear n1_ n2_ n3_; clear ho0 hb hbk))
     go_ret2
     exact ⟨_,by first|rfl|(simp [AY,AX]<;>rfl)|(simp [*,AY,AX]<;>rfl),by (with_reducible repeat (first|apply Kd.R_alloc|apply Kd.R_drewN|apply Kd.R_drew)); exact Kd.R_mono HO322.out (fun _ hk=>trivial),by repeat (first|(with_reducible first|exact HB.out|apply AE|apply AC|apply AD|refine AI ?_ GE315.out)|exact HB.out)⟩
 ·replace c3:=Bool.eq_false_iff.mpr c3
  subst c3
  have H1:(some (([]:List Int),1))=some (r1,r2):=by rw [if_neg (show ¬(false=true) by decide)] at H; exact H
  clear H
  have H:=H1
  clear H1
  simp only [Option.some.injEq,Prod.mk.injEq] at H
  obtain ⟨rfl,rfl⟩:=H
  go_enter Try.func24,Try.ntmps24
  go_wp2_with (first|((with_reducible refine Aq (N:=1) rfl ?_); refine Av ?hg (N:=1) ?hd (cs:= #[.int .i64 A8,.slice A0_1 l0_1.length c0_1]) (t:=34) ?hr ?_; (case hd=>rfl); (case hg=>rfl); (case hr=>first|(go_simp; done)|(go_simp; rfl)); intro gb315 hg w15 hbox hb; have n0_:=yA (AO zB hb); have n1_:=yA (hbox); have n2_:=yA ((by rw [hg]; exact (AQ zB):w.heap.size≤gb315)); have n3_:=yA ((by rw [hg]; exact (AQ zB):w.heap.size≤gb315)); clear HB; have HB:=n0_; have BK315:=n1_; have GW315:=n2_; have GE315:=n3_; clear n0_ n1_ n2_ n3_; clear hb hbox hg; have hcz16_0:w15.cell? ⟨gb315,0,none⟩=some (.int .i64 A8):=(AK BK315.out 0).trans rfl; have hcz16_1:w15.cell? ⟨gb315,1,none⟩=some (.slice A0_1 l0_1.length c0_1):=(AK BK315.out 1).trans rfl; have hfz16_0:=AJ BK315.out 0; have hfz16_1:=AJ BK315.out 1)|((with_reducible refine Ae (f:=29) rfl ?_); refine B6 (some 7) rfl rfl Try.func29 zI rfl #[.agg #[.int .i64 A8,.slice A0_1 l0_1.length c0_1]] rfl zD ?_; (with_reducible refine (AN.calls k A8 _ _ l0_1 false _ ?side1 ?side2 A2.out).mono ?_); (case side1=>repeat (first|exact (Kd.C_below HR0_1.out HB.out)|(with_reducible refine Kd.C_alloc ?_ _)|(with_reducible refine Kd.C_drewN ?_ _)|(with_reducible refine Kd.C_drew ?_))); (case side2=>exact HC0_1.out); rintro e w17 ⟨rfl,hb⟩; refine ⟨_,rfl,?_⟩; have n0_:=yA (AP (g:=gb315) (o:= .cells #[.int .i64 A8,.slice A0_1 l0_1.length c0_1] 34 (0,0)) (by (with_reducible repeat (first|refine AF ?_ _|refine AH ?_|refine AG ?_ _)); exact BK315.out) hb); have n1_:=yA (AO zD7 hb); clear BK315; clear HB; have BK315:=n0_; have HB:=n1_; clear n0_ n1_; (try clear hb); (try clear hb2); (try clear hk); (try clear hi)))
  go_ret2
  exact ⟨_,by first|rfl|(simp [AY,AX]<;>rfl)|(simp [*,AY,AX]<;>rfl),by first|exact Kd.R_nil _ _ _ _ _|exact Kd.N_nil _ _ _ _ _|exact Kd.V_nil _ _ _ _ _|exact Kd.Q_nil _ _ _ _ _|exact Kd.S_nil _ _ _ _ _,by repeat (first|(with_reducible first|exact HB.out|apply AE|apply AC|apply AD|refine AI ?_ GE315.out)|exact HB.out)⟩
def CM.f (l0:List Int) (a1 a2:Int):Option (List Int):=if l0.length≤100000 then (if 0≤a1 then (if a1≤(l0.length:Int) then some (l0.take a1.toNat++a2::l0.drop a1.toNat) else none) else none) else none
theorem Gm {W:World} {g:Nat} {i:Int} (h:W.heap[g]? =some (.cells #[.int .i64 i] 3 (0,0))):ReadsRow ((Kd.int .i64).K W) 1 W (some ⟨g,0,none⟩) 1 [i]:=by
 refine ⟨rfl,by omega,fun _=>⟨⟨g,0,none⟩,rfl,fun j p hj=> ?_⟩⟩
 have hj0:j=0:=by
  have:=(List.getElem?_eq_some_iff.1 hj).1
  simp at this; omega
 subst hj0
 have hp:i=p:=by simpa using hj
 subst hp
 refine ⟨[.int .i64 i],rfl,rfl,fun q u hq=> ?_⟩
 cases q with
 | zero=>
  have hu:Value.int .i64 i=u:=by simpa using hq
  subst hu
  exact (AK h 0).trans rfl
 |succ q=>simp at hq
theorem Dl (w:World) (o:Obj):(w.alloc o).heap[w.heap.size]? =some o:=by
 show (w.heap.push o)[w.heap.size]? =some o
 simp
def put_T:Bool×List (List Nat×List Nat):=(true,[([],[]),([],[]),([],[]),([1,2],[1,2]),([0,3],[0,3]),([],[]),([5],[5]),([4,6,4],[4,6]),([],[]),([],[]),([8,9],[8,9]),([7,10,7],[7,10]),([11,11,0,1,2,3,4,5,6,7,8,9,10,11],[1,8,11])])
def put_B:List Nat:=[0,0,0,6,15,0,32,127,0,0,768,2047,4095]
theorem put_tab:rtab .any (Cx Try.f25 10)=put_T:=by kernel_rfl
theorem Gi:C2 put_T.2 put_B=true:=by kernel_rfl
set_option maxHeartbeats 16000000 in
theorem Dh {Q:Exit→Act→World→Prop} (k i:Int) (x4 r:List Int) (Ao:Option Addr) (co base:Nat) (ok:Nat→Prop) (u0 u1 u2 u3 u7 u8 u9 u10 u11 u12 u13 u14 u15 u16 u17 u18 u19 u20 u21 u22 u23 u24 u25 u26 u27 u28 u29 u30 u31 u32 u33 u34 u35 u36 u37 u38 u39 u40 u41 u42 u43 u44 u45 u46 u47 u48 u49 u50 u51 u52 u53 u54:Value) (W:World) (hR:(Kd.int .i64).R 3 W base ok (.slice Ao x4.length co) x4) (h:CM.f x4 k i=some r) (hP:∀(c:List Go.PanicEntry) (n:Tmp) (v:Value) (a:Act) (w:World),Q (.panic c) (a.put (some n) v) w→Q (.panic c) a w)
  (hQ:∀(v:Value) (W':World) (y42 y43 y44 y45 y46 y47 y48 y49 y50 y51 y52 y53:Value),(Kd.int .i64).R 3 W' W.drew.heap.size (fun k_=>W.drew.heap.size≤k_) v r→Below W.drew.heap.size W.drew W'→Q .normal {tmps:=(u0::u1::u2::u3::v::(.int .i64 i)::(.int .i64 k)::u7::u8::u9::u10::u11::u12::u13::u14::u15::u16::u17::u18::u19::u20::u21::u22::u23::u24::u25::u26::u27::u28::u29::u30::u31::u32::u33::u34::u35::u36::u37::u38::u39::u40::u41::y42::y43::y44::y45::y46::y47::y48::y49::y50::y51::y52::y53::u54::[]).toArray,defers:=[]} W'):
  Code.wp Try.prog (Code.region 10 (Cx Try.f25 10) true) Q {tmps:=(u0::u1::u2::u3::(.slice Ao x4.length co)::(.int .i64 i)::(.int .i64 k)::u7::u8::u9::u10::u11::u12::u13::u14::u15::u16::u17::u18::u19::u20::u21::u22::u23::u24::u25::u26::u27::u28::u29::u30::u31::u32::u33::u34::u35::u36::u37::u38::u39::u40::u41::u42::u43::u44::u45::u46::u47::u48::u49::u50::u51::u52::u53::u54::[]).toArray,defers:=[]} W:=by
 unfold CM.f at h
 by_cases hsz:x4.length≤100000
 rotate_left
 ·rw [if_neg hsz] at h; cases h
 rw [if_pos hsz] at h
 by_cases h0:0≤k
 ·rw [if_pos h0] at h
  by_cases h1:k≤(x4.length:Int)
  ·rw [if_pos h1] at h
   cases h
   have HR:=yA hR
   have HSZ:=yA hsz
   have HQ:=yA hQ
   have HPc:=yA hP
   clear hP
   have hk1:k.toNat≤x4.length:=by omega
   have ek:(k.toNat:Int)=k:=by omega
   clear hR hsz hQ
   simp only [Cx,Try.f25,Cl,Option.bind,Option.getD,Nat.reduceBEq,Bool.false_eq_true,if_false,if_true,reduceIte]
   refine C8 (n:=13) (S:=fun _=>True) (ds:=[]) #[false,false,false,false,false,false,false,false,false,false,false,false,false] zI rfl rfl trivial (fun hHeld=> ?_); refine Bn put_tab Gi (fun HT_ HW_=> ?_)
   have HC0:=yA (Kd.R_reads' (Kd.R_drew HR.out)).2.2
   have HLc:=yA (Kd.R_reads' HR.out).2.1
   clear HR
   generalize W.drew=W0 at HC0 HQ ⊢
   refine At (i:=1) (N:=some 43) (v:= ?_) (a':= ?_) #[false,true,false,false,false,false,false,false,false,false,false,false,false] rfl rfl (Ai HT_.out zI) (fun _ _ _ h=>HPc.out _ _ _ _ _ h) (Or.inl ⟨by rfl,?_⟩) ?_ ?_; rotate_left; intro w'; go_simp; with_reducible rfl; rotate_left; exact yB
   refine At (i:=2) (N:=some 44) (v:= ?_) (a':= ?_) #[false,true,true,false,false,false,false,false,false,false,false,false,false] rfl rfl (Ai HT_.out zI) (fun _ _ _ h=>HPc.out _ _ _ _ _ h) (Or.inl ⟨by rfl,?_⟩) ?_ ?_; rotate_left; intro w'; go_simp; with_reducible rfl; rotate_left; exact yB
   refine At (i:=5) (N:=some 47) (v:= ?_) (a':= ?_) #[false,true,true,false,false,true,false,false,false,false,false,false,false] rfl rfl (Ai HT_.out zI) (fun _ _ _ h=>HPc.out _ _ _ _ _ h) (Or.inl ⟨by rfl,?_⟩) ?_ ?_; rotate_left; intro w'; go_simp; with_reducible rfl; rotate_left; exact yB
   refine At (i:=8) (N:=some 50) (v:= ?_) (a':= ?_) #[false,true,true,false,false,true,false,false,true,false,false,false,false] rfl rfl (Ai HT_.out zI) (fun _ _ _ h=>HPc.out _ _ _ _ _ h) (Or.inl ⟨by rfl,?_⟩) ?_ ?_; rotate_left; intro w'; go_simp; with_reducible rfl; rotate_left; exact yB
   refine At (i:=9) (N:=some 51) (v:= ?_) (a':= ?_) #[false,true,true,false,false,true,false,false,true,true,false,false,false] rfl rfl (Ai HT_.out zI) (fun _ _ _ h=>HPc.out _ _ _ _ _ h) (Or.inl ⟨by rfl,?_⟩) ?_ ?_; rotate_left; intro w'; go_simp; with_reducible rfl; rotate_left; exact yB
   have hkc:¬((co:Int)<k):=by have:=HLc.out; omega
   have hkn:¬((x4.length:Int)<k):=by omega
   have hcc:=eq_true HLc.out
   have hA:Option.map (fun x:Addr=>x.add 0) Ao=Ao:=by cases Ao<;>simp [Addr.add]
   refine At (i:=3) (N:=some 45) (v:= .slice Ao k.toNat co) (a':= ?_) #[false,true,true,true,false,true,false,false,true,true,false,false,false] rfl rfl (Ai HT_.out zI) (fun _ _ _ h=>HPc.out _ _ _ _ _ h) (Or.inl ⟨by rfl,?_⟩) ?_ ?_
   ·intro w'
    go_simp
   rotate_left
   ·exact yB
   refine At (i:=10) (N:=some 52) (v:= .slice (if co=k.toNat then Ao else Ao.map (·.add (k.toNat*1))) (x4.length-k.toNat) (co-k.toNat)) (a':= ?_) #[false,true,true,true,false,true,false,false,true,true,true,false,false] rfl rfl (Ai HT_.out zI) (fun _ _ _ h=>HPc.out _ _ _ _ _ h) (Or.inl ⟨by rfl,?_⟩) ?_ ?_
   ·intro w'
    go_simp
   rotate_left
   ·exact yB
   refine join_ (σ:=Value×Value×Nat) 3 #[true,true,true,true,true,true,true,false,true,true,true,false,false] (fun s=>[(42,s.1),(46,s.2.1),(48,.slice (some ⟨s.2.2,0,none⟩) 1 1)]) (fun s w'=>(Kd.int .i64).R 3 w' W0.heap.size (fun k_=>W0.heap.size≤k_) s.2.1 (x4.take k.toNat)∧s.2.1.ownBlock≠some s.2.2∧w'.heap[s.2.2]? =some (.cells #[.int .i64 i] 3 (0,0))∧Below W0.heap.size W0 w') ?_ (fun hcont=> ?_)
   ·rintro ⟨v42,v46,g⟩ w1 ⟨HR,HN,HG,HB⟩
    have HR:=yA HR
    have HN:=yA HN
    have HG:=yA HG
    have HB:=yA HB
    refine By (a':= ?_) ?_ ?_
    rotate_left
    ·show Dj _ [(42,_),(46,_),(48,_)]=_
     simp only [Dj,Act.put,List.setIfInBounds_toArray,List.set_cons_zero,List.set_cons_succ,Aa,Ab]
     rfl
    refine one_ (i:=7) (N:=some 49) #[true,true,true,true,true,true,true,true,true,true,true,false,false] rfl rfl (Bv HT_.out zI) zA0 (fun K hK=> ?_)
    refine Kd.R_append_rows_step (Kd.int .i64) (w0:=W0) W0.heap.size (by rfl) (.tmp 46) (.tmp 48) 26 3 (.int .i64 0) 8 rfl Try.underlying26 info3 rfl zA0 zA0 v46 (x4.take k.toNat) [i] (some ⟨g,0,none⟩) 1 1 (fun k_=>W0.heap.size≤k_) (fun _=>False) rfl rfl HR.out (Gm HG.out) (fun _ _ h=>h) (fun _ h=>h.elim) (fun k_ hk=>Nat.le_trans HB.out.size hk) HB.out HB.out.size (by have:=HSZ.out; simp only [List.length_take]; omega) ?_
    intro v49 w2 HR2 HB2 hg hat
    have HR2:=yA HR2
    have HB2:=yA HB2
    clear hg hat HR HN HG HB
    refine hK.out _ _ trivial (fun hHeld=> ?_)
    clear hK K
    refine By (a':= ?_) ?_ ?_; rotate_left; show Act.put _ (some 49) _=_; exact yB
    refine one_ (i:=11) (N:=some 53) #[true,true,true,true,true,true,true,true,true,true,true,true,false] rfl rfl (Bv HT_.out zI) zA0 (fun K hK=> ?_)
    refine Kd.R_append_rows_step (Kd.int .i64) (w0:=W0) W0.heap.size (by rfl) (.tmp 49) (.tmp 52) 26 3 (.int .i64 0) 8 rfl Try.underlying26 info3 rfl zA0 zA0 v49 (x4.take k.toNat++[i]) (x4.drop k.toNat) _ _ _ (fun k_=>W0.heap.size≤k_) (fun _=>False) rfl rfl HR2.out ?_ (fun _ _ h=>h) (fun _ h=>h.elim) (fun k_ hk=>Nat.le_trans HB2.out.size hk) HB2.out HB2.out.size (by have:=HSZ.out; simp only [List.length_append,List.length_take,List.length_singleton]; omega) ?_
    ·have h1:=Kd.C_below (Kd.C_drop (m:=k.toNat) HC0.out zE HLc.out) HB2.out
     rw [List.length_drop] at h1
     exact h1
    intro v53 w3 HR3 HB3 hg hat
    have HR3:=yA HR3
    have HB3:=yA HB3
    clear hg hat HR2 HB2
    refine hK.out _ _ trivial (fun hHeld=> ?_)
    clear hK K
    refine By (a':= ?_) ?_ ?_; rotate_left; show Act.put _ (some 53) _=_; exact yB
    refine At (i:=12) (N:=some 4) (v:= ?_) (a':= ?_) #[true,true,true,true,true,true,true,true,true,true,true,true,true] rfl rfl (Ai HT_.out zI) (fun _ _ _ h=>HPc.out _ _ _ _ _ h) (Or.inl ⟨by rfl,?_⟩) ?_ ?_; rotate_left; intro w'; go_simp; with_reducible rfl; rotate_left; exact yB
    refine CS (CC HT_.out zI) ?_
    refine HQ.out _ _ _ _ _ _ _ _ _ _ _ _ _ _ ?_ HB3.out
    refine Kd.R_mono ?_ (fun _ hk=>hk)
    have e:(x4.take k.toNat++[i])++x4.drop k.toNat=x4.take k.toNat++i::x4.drop k.toNat:=by simp
    rw [←e]
    exact HR3.out
   have HB:=yA (Below.refl W0.heap.size W0)
   refine two_ (i:=0) (j:=6) (Ni:=some 42) (Nj:=some 48) #[true,true,true,true,false,true,false,false,true,true,true,false,false] #[false,true,true,true,false,true,true,false,true,true,true,false,false] rfl rfl rfl rfl (GS HT_.out zI) zA0 zA0 (fun K hK=> ?_) (fun K hK=> ?_)
   ·skip
    refine Kd.R_lit_step (Kd.int .i64) (w0:=W0) W0.heap.size 3 (by rfl) (N:=42) rfl (xs:=([]:List Int)) (inner:=[]) (ok:=fun k_=>W0.heap.size≤k_) (okp:=fun _=>False) ?_ (Reps.none _ _) (fun _ hk=>hk.elim) HB.out.size HB.out HB.out.size zA5 ?_
    ·first|(go_simp; done)|(go_simp; rfl)
    intro v42 w1 ho hb hg hat
    clear HB
    have HR:=yA ho
    have HB:=yA hb
    clear ho hb hg hat
    refine hK.out _ _ trivial (fun hHeld=> ?_)
    clear hK K
    refine By (a':= ?_) ?_ ?_; rotate_left; show Act.put _ (some 42) _=_; exact yB
    refine two_ (i:=4) (j:=6) (Ni:=some 46) (Nj:=some 48) #[true,true,true,true,true,true,false,false,true,true,true,false,false] #[true,true,true,true,false,true,true,false,true,true,true,false,false] rfl rfl rfl rfl (GS HT_.out zI) zA0 zA0 (fun K hK=> ?_) (fun K hK=> ?_)
    ·skip
     refine Kd.R_append_rows_step (Kd.int .i64) (w0:=W0) W0.heap.size (by rfl) (.tmp 42) (.tmp 45) 26 3 (.int .i64 0) 8 rfl Try.underlying26 info3 rfl zA0 zA0 v42 [] (x4.take k.toNat) _ _ _ (fun k_=>W0.heap.size≤k_) (fun _=>False) rfl rfl HR.out ?_ (fun _ _ h=>h) (fun _ h=>h.elim) (fun k_ hk=>Nat.le_trans HB.out.size hk) HB.out HB.out.size (by have:=HSZ.out; simp only [List.length_nil]; omega) ?_
     ·have h1:=Kd.C_below (Kd.C_take (m:=k.toNat) HC0.out zE) HB.out
      rw [List.length_take,Nat.min_eq_left zE] at h1
      exact h1
     intro v46 w2 ho hb hg hat
     clear HB HR
     have HR:=yA ho
     have HB:=yA hb
     clear ho hb hg hat
     refine hK.out _ _ trivial (fun hHeld=> ?_)
     clear hK K
     refine By (a':= ?_) ?_ ?_; rotate_left; show Act.put _ (some 46) _=_; exact yB
     refine one_ (i:=6) (N:=some 48) #[true,true,true,true,true,true,true,false,true,true,true,false,false] rfl rfl (Bv HT_.out zI) zA0 (fun K hK=> ?_)
     refine ER (v:= .slice (some ⟨w2.heap.size,0,none⟩) 1 1) (w1:=w2.alloc (.cells #[.int .i64 i] 3)) (by rfl) rfl ?_ ?_
     ·first|(go_simp; done)|(go_simp; rfl)
     have HN:=yA (show v46.ownBlock≠some w2.heap.size from fun h=>absurd (Kd.R_lt HR.out _ h) zE)
     have HG:=yA (show (w2.alloc (.cells #[.int .i64 i] 3)).heap[w2.heap.size]? =some (.cells #[.int .i64 i] 3 (0,0)) from Dl _ _)
     have HR':=yA (Kd.R_alloc HR.out (.cells #[.int .i64 i] 3))
     have HB':=yA (HB.out.alloc HB.out.size (.cells #[.int .i64 i] 3))
     clear HR HB
     have HR:=HR'
     have HB:=HB'
     refine hK.out _ _ trivial (fun hHeld=> ?_)
     clear hK K
     refine By (a':= ?_) ?_ ?_; rotate_left; show Act.put _ (some 48) _=_; exact yB
     skip
     exact hcont ⟨v42,v46,w2.heap.size⟩ _ ⟨by simpa using HR.out,HN.out,HG.out,HB.out⟩
    ·skip
     refine ER (v:= .slice (some ⟨w1.heap.size,0,none⟩) 1 1) (w1:=w1.alloc (.cells #[.int .i64 i] 3)) (by rfl) rfl ?_ ?_
     ·first|(go_simp; done)|(go_simp; rfl)
     have HNv:=yA (show v42.ownBlock≠some w1.heap.size from fun h=>absurd (Kd.R_lt HR.out _ h) zE)
     have HG:=yA (show (w1.alloc (.cells #[.int .i64 i] 3)).heap[w1.heap.size]? =some (.cells #[.int .i64 i] 3 (0,0)) from Dl _ _)
     have HR':=yA (Kd.R_alloc HR.out (.cells #[.int .i64 i] 3))
     have HB':=yA (HB.out.alloc HB.out.size (.cells #[.int .i64 i] 3))
     clear HR HB
     have HR:=HR'
     have HB:=HB'
     have HS:=yA (show w1.heap.size<(w1.alloc (.cells #[.int .i64 i] 3)).heap.size from by simp)
     refine hK.out _ _ trivial (fun hHeld=> ?_)
     clear hK K
     refine By (a':= ?_) ?_ ?_; rotate_left; show Act.put _ (some 48) _=_; exact yB
     skip
     refine one_ (i:=4) (N:=some 46) #[true,true,true,true,true,true,true,false,true,true,true,false,false] rfl rfl (Bv HT_.out zI) zA0 (fun K hK=> ?_)
     refine Kd.R_append_rows_step (Kd.int .i64) (w0:=W0) W0.heap.size (by rfl) (.tmp 42) (.tmp 45) 26 3 (.int .i64 0) 8 rfl Try.underlying26 info3 rfl zA0 zA0 v42 [] (x4.take k.toNat) _ _ _ (fun k_=>W0.heap.size≤k_) (fun _=>False) rfl rfl HR.out ?_ (fun _ _ h=>h) (fun _ h=>h.elim) (fun k_ hk=>Nat.le_trans HB.out.size hk) HB.out HB.out.size (by have:=HSZ.out; simp only [List.length_nil]; omega) ?_
     ·have h1:=Kd.C_below (Kd.C_take (m:=k.toNat) HC0.out zE) HB.out
      rw [List.length_take,Nat.min_eq_left zE] at h1
      exact h1
     intro v46 w2 ho hb hg hat
     have HN:=yA (show v46.ownBlock≠some w1.heap.size from fun h=>by rcases hat with e|⟨b,e,hb2⟩; exact HNv.out (e▸h); rw [e] at h; injection h with h; have:=HS.out; omega)
     have HG':=yA ((hg.block _ HS.out (fun h=>HNv.out h.symm)).trans HG.out)
     clear HB HR HG
     have HR:=yA ho
     have HB:=yA hb
     have HG:=HG'
     clear ho hb hg hat
     refine hK.out _ _ trivial (fun hHeld=> ?_)
     clear hK K
     refine By (a':= ?_) ?_ ?_; rotate_left; show Act.put _ (some 46) _=_; exact yB
     exact hcont ⟨v42,v46,w1.heap.size⟩ _ ⟨by simpa using HR.out,HN.out,HG.out,HB.out⟩
   ·skip
    refine ER (v:= .slice (some ⟨W0.heap.size,0,none⟩) 1 1) (w1:=W0.alloc (.cells #[.int .i64 i] 3)) (by rfl) rfl ?_ ?_
    ·first|(go_simp; done)|(go_simp; rfl)
    have HG:=yA (show (W0.alloc (.cells #[.int .i64 i] 3)).heap[W0.heap.size]? =some (.cells #[.int .i64 i] 3 (0,0)) from Dl _ _)
    have HB':=yA (HB.out.alloc HB.out.size (.cells #[.int .i64 i] 3))
    clear HB
    have HB:=HB'
    have HS0:=yA (show W0.heap.size<(W0.alloc (.cells #[.int .i64 i] 3)).heap.size from by simp)
    refine hK.out _ _ trivial (fun hHeld=> ?_)
    clear hK K
    refine By (a':= ?_) ?_ ?_; rotate_left; show Act.put _ (some 48) _=_; exact yB
    skip
    refine one_ (i:=0) (N:=some 42) #[true,true,true,true,false,true,true,false,true,true,true,false,false] rfl rfl (Bv HT_.out zI) zA0 (fun K hK=> ?_)
    refine Kd.R_lit_step (Kd.int .i64) (w0:=W0) W0.heap.size 3 (by rfl) (N:=42) rfl (xs:=([]:List Int)) (inner:=[]) (ok:=fun k_=>W0.heap.size≤k_) (okp:=fun _=>False) ?_ (Reps.none _ _) (fun _ hk=>hk.elim) HB.out.size HB.out HB.out.size zA5 ?_
    ·first|(go_simp; done)|(go_simp; rfl)
    intro v42 w1 ho hb hg hat
    have HNv:=yA (show v42.ownBlock≠some W0.heap.size from fun h=>by obtain ⟨b,e,hb2⟩:=hat; rw [e] at h; injection h with h; have:=HS0.out; omega)
    have HG':=yA ((hg.block _ HS0.out zA5).trans HG.out)
    have HS:=yA (Nat.lt_of_lt_of_le HS0.out hg.size)
    clear HB HG
    have HR:=yA ho
    have HB:=yA hb
    have HG:=HG'
    clear ho hb hg hat
    refine hK.out _ _ trivial (fun hHeld=> ?_)
    clear hK K
    refine By (a':= ?_) ?_ ?_; rotate_left; show Act.put _ (some 42) _=_; exact yB
    refine one_ (i:=4) (N:=some 46) #[true,true,true,true,true,true,true,false,true,true,true,false,false] rfl rfl (Bv HT_.out zI) zA0 (fun K hK=> ?_)
    refine Kd.R_append_rows_step (Kd.int .i64) (w0:=W0) W0.heap.size (by rfl) (.tmp 42) (.tmp 45) 26 3 (.int .i64 0) 8 rfl Try.underlying26 info3 rfl zA0 zA0 v42 [] (x4.take k.toNat) _ _ _ (fun k_=>W0.heap.size≤k_) (fun _=>False) rfl rfl HR.out ?_ (fun _ _ h=>h) (fun _ h=>h.elim) (fun k_ hk=>Nat.le_trans HB.out.size hk) HB.out HB.out.size (by have:=HSZ.out; simp only [List.length_nil]; omega) ?_
    ·have h1:=Kd.C_below (Kd.C_take (m:=k.toNat) HC0.out zE) HB.out
     rw [List.length_take,Nat.min_eq_left zE] at h1
     exact h1
    intro v46 w2 ho hb hg hat
    have HN:=yA (show v46.ownBlock≠some W0.heap.size from fun h=>by rcases hat with e|⟨b,e,hb2⟩; exact HNv.out (e▸h); rw [e] at h; injection h with h; have:=HS.out; omega)
    have HG':=yA ((hg.block _ HS.out (fun h=>HNv.out h.symm)).trans HG.out)
    clear HB HR HG
    have HR:=yA ho
    have HB:=yA hb
    have HG:=HG'
    clear ho hb hg hat
    refine hK.out _ _ trivial (fun hHeld=> ?_)
    clear hK K
    refine By (a':= ?_) ?_ ?_; rotate_left; show Act.put _ (some 46) _=_; exact yB
    exact hcont ⟨v42,v46,W0.heap.size⟩ _ ⟨by simpa using HR.out,HN.out,HG.out,HB.out⟩
  ·rw [if_neg h1] at h; cases h
 ·rw [if_neg h0] at h; cases h
mutual
def Am.l0:Nat→List Int→Int→Int→List (S42)→Option (List Int×Int)
 |0,_,_,_,_=>none
 |k+1,x4,x5,x324000,x324001=>if x5<(x324001.length:Int) then (Am.l1 k x4 x5 (x4.length:Int) x324000 x324001) else (some (x4,0))
def Am.l1:Nat→List Int→Int→Int→Int→List (S42)→Option (List Int×Int)
 |0,_,_,_,_,_=>none
 |k+1,x4,x5,x6,x324000,x324001=>if x6>0 then (if 0≤(wrap64 (x6-1)) then (if (wrap64 (x6-1))<(x4.length:Int) then (if 0≤(rd x4 (wrap64 (x6-1))) then (if (rd x4 (wrap64 (x6-1)))<(x324001.length:Int) then (if 0≤x5 then (if x5<(x324001.length:Int) then (if ((AL x324001 (rd x4 (wrap64 (x6-1)))).f2)>((AL x324001 x5).f2) then (Am.l1 k x4 x5 (wrap64 (x6-1)) x324000 x324001) else ((CM.f x4 x6 x5).bind fun t328=>(Am.l0 k t328 (wrap64 (x5+1)) x324000 x324001))) else (none)) else (none)) else (none)) else (none)) else (none)) else (none)) else ((CM.f x4 x6 x5).bind fun t331=>(Am.l0 k t331 (wrap64 (x5+1)) x324000 x324001))
end
def Am.f (k:Nat) (A8:Int) (l0_1:List (S42)):Option (List Int×Int):=(AS.f k A8 l0_1).bind fun t324=>(if t324=true then (Am.l0 k ([]:List Int) 0 A8 l0_1) else (some (([]:List Int),1)))
set_option maxHeartbeats 8000000 in
theorem Am.calls (k:Nat) (A8:Int) (A0_1:Option Addr) (c0_1:Nat) (l0_1:List (S42)) (r1:List Int) (r2:Int) (w:World) (hr0_1:Kd.C k42 w A0_1 l0_1.length l0_1) (hc0_1:l0_1.length≤c0_1) (h:Am.f k A8 l0_1=some (r1,r2)):
  Calls Try.prog 25 #[.agg #[.int .i64 A8,.slice A0_1 l0_1.length c0_1]] w fun e w'=>∃v0_:Value,e= .returned (.tuple #[v0_,.int .i64 r2])∧Kd.R (Kd.int .i64) 3 w' w.heap.size (fun _=>True) v0_ r1∧Below w.heap.size w w':=by
 have hu24:=Try.underlying24
 have HR0_1:=yA hr0_1
 have HC0_1:=yA hc0_1
 clear hr0_1 hc0_1
 have HB:=yA (Below.refl w.heap.size w)
 have H:((AS.f k A8 l0_1).bind fun t324=>(if t324=true then (Am.l0 k ([]:List Int) 0 A8 l0_1) else (some (([]:List Int),1))))=some (r1,r2):=h
 clear h
 replace H:=Option.bind_eq_some_iff.mp H
 obtain ⟨t324,A20,H⟩:=H
 replace H:(if t324=true then (Am.l0 k ([]:List Int) 0 A8 l0_1) else (some (([]:List Int),1)))=some (r1,r2):=H
 have A2:=yA A20
 clear A20
 by_cases c3:t324=true
 ·subst c3
  have H1:(Am.l0 k ([]:List Int) 0 A8 l0_1)=some (r1,r2):=by rw [if_pos rfl] at H; exact H
  clear H
  have H:=H1
  clear H1
  have H':=yA H
  clear H
  go_enter Try.func25,Try.ntmps25
  go_wp2_with (first|((with_reducible refine Aq (N:=1) rfl ?_); refine Av ?hg (N:=1) ?hd (cs:= #[.int .i64 A8,.slice A0_1 l0_1.length c0_1]) (t:=24) ?hr ?_; (case hd=>rfl); (case hg=>rfl); (case hr=>first|(go_simp; done)|(go_simp; rfl)); intro gb323 hg w4 hbox hb; have n0_:=yA (AO zB hb); have n1_:=yA (hbox); have n2_:=yA ((by rw [hg]; exact (AQ zB):w.heap.size≤gb323)); have n3_:=yA ((by rw [hg]; exact (AQ zB):w.heap.size≤gb323)); clear HB; have HB:=n0_; have BK323:=n1_; have GW323:=n2_; have GE323:=n3_; clear n0_ n1_ n2_ n3_; clear hb hbox hg; have hcz5_0:w4.cell? ⟨gb323,0,none⟩=some (.int .i64 A8):=(AK BK323.out 0).trans rfl; have hcz5_1:w4.cell? ⟨gb323,1,none⟩=some (.slice A0_1 l0_1.length c0_1):=(AK BK323.out 1).trans rfl; have hfz5_0:=AJ BK323.out 0; have hfz5_1:=AJ BK323.out 1)|(go_at_call 36; (with_reducible refine (AS.calls k A8 _ _ l0_1 true _ ?side1 ?side2 A2.out).mono ?_); (case side1=>repeat (first|exact (Kd.C_below HR0_1.out HB.out)|(with_reducible refine Kd.C_alloc ?_ _)|(with_reducible refine Kd.C_drewN ?_ _)|(with_reducible refine Kd.C_drew ?_))); (case side2=>exact HC0_1.out); rintro e w6 ⟨rfl,hb⟩; have n0_:=yA (AP (g:=gb323) (o:= .cells #[.int .i64 A8,.slice A0_1 l0_1.length c0_1] 24 (0,0)) zC3 hb); have n1_:=yA (AO zA6 hb); clear BK323; clear HB; have BK323:=n0_; have HB:=n1_; clear n0_ n1_; (try clear hb); (try clear hb2); (try clear hk); (try clear hi)))
  repeat (go_quiet (first|((with_reducible refine Aq (N:=1) rfl ?_); refine Av ?hg (N:=1) ?hd (cs:= #[.int .i64 A8,.slice A0_1 l0_1.length c0_1]) (t:=24) ?hr ?_; (case hd=>rfl); (case hg=>rfl); (case hr=>first|(go_simp; done)|(go_simp; rfl)); intro gb323 hg w4 hbox hb; have n0_:=yA (AO zB hb); have n1_:=yA (hbox); have n2_:=yA ((by rw [hg]; exact (AQ zB):w.heap.size≤gb323)); have n3_:=yA ((by rw [hg]; exact (AQ zB):w.heap.size≤gb323)); clear HB; have HB:=n0_; have BK323:=n1_; have GW323:=n2_; have GE323:=n3_; clear n0_ n1_ n2_ n3_; clear hb hbox hg; have hcz5_0:w4.cell? ⟨gb323,0,none⟩=some (.int .i64 A8):=(AK BK323.out 0).trans rfl; have hcz5_1:w4.cell? ⟨gb323,1,none⟩=some (.slice A0_1 l0_1.length c0_1):=(AK BK323.out 1).trans rfl; have hfz5_0:=AJ BK323.out 0; have hfz5_1:=AJ BK323.out 1)|(go_at_call 36; (with_reducible refine (AS.calls k A8 _ _ l0_1 true _ ?side1 ?side2 A2.out).mono ?_); (case side1=>repeat (first|exact (Kd.C_below HR0_1.out HB.out)|(with_reducible refine Kd.C_alloc ?_ _)|(with_reducible refine Kd.C_drewN ?_ _)|(with_reducible refine Kd.C_drew ?_))); (case side2=>exact HC0_1.out); rintro e w6 ⟨rfl,hb⟩; have n0_:=yA (AP (g:=gb323) (o:= .cells #[.int .i64 A8,.slice A0_1 l0_1.length c0_1] 24 (0,0)) zC3 hb); have n1_:=yA (AO zA6 hb); clear BK323; clear HB; have BK323:=n0_; have HB:=n1_; clear n0_ n1_; (try clear hb); (try clear hb2); (try clear hk); (try clear hi); clear A2)); try go_wp2_with (first|((with_reducible refine Aq (N:=1) rfl ?_); refine Av ?hg (N:=1) ?hd (cs:= #[.int .i64 A8,.slice A0_1 l0_1.length c0_1]) (t:=24) ?hr ?_; (case hd=>rfl); (case hg=>rfl); (case hr=>first|(go_simp; done)|(go_simp; rfl)); intro gb323 hg w4 hbox hb; have n0_:=yA (AO zB hb); have n1_:=yA (hbox); have n2_:=yA ((by rw [hg]; exact (AQ zB):w.heap.size≤gb323)); have n3_:=yA ((by rw [hg]; exact (AQ zB):w.heap.size≤gb323)); clear HB; have HB:=n0_; have BK323:=n1_; have GW323:=n2_; have GE323:=n3_; clear n0_ n1_ n2_ n3_; clear hb hbox hg; have hcz5_0:w4.cell? ⟨gb323,0,none⟩=some (.int .i64 A8):=(AK BK323.out 0).trans rfl; have hcz5_1:w4.cell? ⟨gb323,1,none⟩=some (.slice A0_1 l0_1.length c0_1):=(AK BK323.out 1).trans rfl; have hfz5_0:=AJ BK323.out 0; have hfz5_1:=AJ BK323.out 1)|(go_at_call 36; (with_reducible refine (AS.calls k A8 _ _ l0_1 true _ ?side1 ?side2 A2.out).mono ?_); (case side1=>repeat (first|exact (Kd.C_below HR0_1.out HB.out)|(with_reducible refine Kd.C_alloc ?_ _)|(with_reducible refine Kd.C_drewN ?_ _)|(with_reducible refine Kd.C_drew ?_))); (case side2=>exact HC0_1.out); rintro e w6 ⟨rfl,hb⟩; have n0_:=yA (AP (g:=gb323) (o:= .cells #[.int .i64 A8,.slice A0_1 l0_1.length c0_1] 24 (0,0)) zC3 hb); have n1_:=yA (AO zA6 hb); clear BK323; clear HB; have BK323:=n0_; have HB:=n1_; clear n0_ n1_; (try clear hb); (try clear hb2); (try clear hk); (try clear hi); clear A2)))
  go_loopg [4,5] k (fun kq v4 v5 w'=>∃(x4_1:List Int) (x5_1:Int),v5= .int .i64 x5_1∧Aside0 (Am.l0 kq x4_1 x5_1 A8 l0_1=some (r1,r2))∧Aside0 (kq≤k)∧Aside0 (Kd.R (Kd.int .i64) 3 w' w.heap.size (fun _=>True) v4 x4_1)∧Aside0 (w'.heap[gb323]? =some (.cells #[.int .i64 A8,(.slice A0_1 l0_1.length c0_1)] 24 (0,0)))∧Aside0 (Below w.heap.size w w'))
  case atStart=>exact ⟨(([]:List Int)),(0),zH,H',⟨Nat.le_refl _⟩,⟨by first|exact Kd.R_nil _ _ _ _ _|exact Kd.N_nil _ _ _ _ _|exact Kd.V_nil _ _ _ _ _|exact Kd.Q_nil _ _ _ _ _|exact Kd.S_nil _ _ _ _ _⟩,⟨by (with_reducible repeat (first|refine AF ?_ _|refine AH ?_|refine AG ?_ _)); exact BK323.out⟩,⟨by repeat (first|(with_reducible first|exact HB.out|apply AE|apply AC|apply AD|refine AI ?_ GE323.out)|exact HB.out)⟩⟩
  case round=>
   clear H'
   try clear c2
   try clear p2
   try clear c3
   try clear hcz5_0
   try clear hcz5_1
   try clear hfz5_0
   try clear hfz5_1
   obtain ⟨x4_1,x5_1,rfl,HA,HK1,HO_4,BK323,HB⟩:=hrel
   cases gk with
   |zero=>exact absurd HA.out (by simp [Am.l0])
   | succ k1 =>
    have H:=HA.out
    clear HA
    simp only [Am.l0] at H
    by_cases c7:x5_1<(l0_1.length:Int)
    ·rw [if_pos c7] at H
     have c7b0:decide (x5_1<(l0_1.length:Int))=true:=decide_eq_true c7
     clear c7
     have H':=yA H
     clear H
     have hcz8_0:wr.cell? ⟨gb323,0,none⟩=some (.int .i64 A8):=(AK BK323.out 0).trans rfl
     have hcz8_1:wr.cell? ⟨gb323,1,none⟩=some (.slice A0_1 l0_1.length c0_1):=(AK BK323.out 1).trans rfl
     have hfz8_0:=AJ BK323.out 0
     have hfz8_1:=AJ BK323.out 1
     obtain ⟨Ao9,co9,eo9⟩:=Kd.R_slice HO_4.out
     subst eo9
     go_wp2
     repeat (go_quiet (fail); try go_wp2)
     go_loopg [6] k1 (fun kq v6 w'=>∃(x6_2:Int),v6= .int .i64 x6_2∧Aside0 (Am.l1 kq x4_1 x5_1 x6_2 A8 l0_1=some (r1,r2))∧Aside0 (kq≤k1)∧Aside0 (Kd.R (Kd.int .i64) 3 w' w.heap.size (fun _=>True) (.slice Ao9 x4_1.length co9) x4_1)∧Aside0 (w'.heap[gb323]? =some (.cells #[.int .i64 A8,(.slice A0_1 l0_1.length c0_1)] 24 (0,0)))∧Aside0 (Below w.heap.size w w'))
     case atStart=>exact ⟨((x4_1.length:Int)),zH,H',⟨Nat.le_refl _⟩,⟨by (with_reducible repeat (first|apply Kd.R_alloc|apply Kd.R_drewN|apply Kd.R_drew)); exact HO_4.out⟩,⟨by (with_reducible repeat (first|refine AF ?_ _|refine AH ?_|refine AG ?_ _)); exact BK323.out⟩,⟨by repeat (first|(with_reducible first|exact HB.out|apply AE|apply AC|apply AD|refine AI ?_ GE323.out)|exact HB.out)⟩⟩
     case round=>
      clear H'
      try clear c2
      try clear p2
      try clear c3
      try clear c7
      try clear c7b0
      try clear hcz5_0
      try clear hcz5_1
      try clear hcz8_0
      try clear hcz8_1
      try clear hfz5_0
      try clear hfz5_1
      try clear hfz8_0
      try clear hfz8_1
      try clear p2
      obtain ⟨x6_2,rfl,HA,HK2,HO_4,BK323,HB⟩:=hrel
      cases gk with
      |zero=>exact absurd HA.out (by simp [Am.l1])
      | succ k2 =>
       have H:=HA.out
       clear HA
       simp only [Am.l1] at H
       by_cases c10:x6_2>0
       ·rw [if_pos c10] at H
        have c10b0:decide (0<x6_2)=true:=decide_eq_true c10
        clear c10
        obtain ⟨ji11,hji11⟩:∃j_:Int,(wrap64 (x6_2-1))=j_:=⟨_,rfl⟩
        replace H:(if 0≤(ji11) then (if (ji11)<(x4_1.length:Int) then (if 0≤(rd x4_1 (ji11)) then (if (rd x4_1 (ji11))<(l0_1.length:Int) then (if 0≤x5_1 then (if x5_1<(l0_1.length:Int) then (if ((AL l0_1 (rd x4_1 (ji11))).f2)>((AL l0_1 x5_1).f2) then (Am.l1 k2 x4_1 x5_1 ji11 A8 l0_1) else ((CM.f x4_1 x6_2 x5_1).bind fun t328=>(Am.l0 k2 t328 (wrap64 (x5_1+1)) A8 l0_1))) else (none)) else (none)) else (none)) else (none)) else (none)) else (none))=some (r1,r2):=by first|(rw [hji11] at H; exact H)|(simp only [hji11] at H ⊢; exact H)
        have hji11w:(IntKind.i64.wrap (x6_2-1))=ji11:=(Aa _).trans hji11
        by_cases c12:0≤(ji11)
        ·rw [if_pos c12] at H
         have c12b0:decide (0≤(ji11))=true:=decide_eq_true c12
         clear c12
         by_cases c13:(ji11)<(x4_1.length:Int)
         ·rw [if_pos c13] at H
          have c13b0:decide ((ji11)<(x4_1.length:Int))=true:=decide_eq_true c13
          clear c13
          by_cases c14:0≤(rd x4_1 (ji11))
          ·rw [if_pos c14] at H
           have c14b0:decide (0≤(rd x4_1 (ji11)))=true:=decide_eq_true c14
           clear c14
           by_cases c15:(rd x4_1 (ji11))<(l0_1.length:Int)
           ·rw [if_pos c15] at H
            have c15b0:decide ((rd x4_1 (ji11))<(l0_1.length:Int))=true:=decide_eq_true c15
            clear c15
            by_cases c16:0≤x5_1
            ·rw [if_pos c16] at H
             have c16b0:decide (0≤x5_1)=true:=decide_eq_true c16
             clear c16
             by_cases c17:x5_1<(l0_1.length:Int)
             ·rw [if_pos c17] at H
              have c17b0:decide (x5_1<(l0_1.length:Int))=true:=decide_eq_true c17
              clear c17
              by_cases c18:((AL l0_1 (rd x4_1 (ji11))).f2)>((AL l0_1 x5_1).f2)
              ·rw [if_pos c18] at H
               have c18b0:decide (((AL l0_1 x5_1).f2)<((AL l0_1 (rd x4_1 (ji11))).f2))=true:=decide_eq_true c18
               clear c18
               have H':=yA H
               clear H
               have hcz19_0:wr.cell? ⟨gb323,0,none⟩=some (.int .i64 A8):=(AK BK323.out 0).trans rfl
               have hcz19_1:wr.cell? ⟨gb323,1,none⟩=some (.slice A0_1 l0_1.length c0_1):=(AK BK323.out 1).trans rfl
               have hfz19_0:=AJ BK323.out 0
               have hfz19_1:=AJ BK323.out 1
               have p325:0≤((ji11):Int):=yD
               have q325:(ji11)<(x4_1.length:Int):=yD
               obtain ⟨ad325,e325,hx325_0⟩:=Kd.at_int (Kd.R_reads' HO_4.out).2.2 (ji11) p325 q325
               cases e325
               replace p325:=eq_true p325
               replace q325:=eq_true q325
               have p326:0≤((rd x4_1 (ji11)):Int):=yD
               have q326:(rd x4_1 (ji11))<(l0_1.length:Int):=yD
               obtain ⟨ad326,A326_3,c326_3,e326,hx326_0,hx326_1,hx326_2,hx326_3,hl326_3,hi326_3⟩:=BZ HR0_1.out (rd x4_1 (ji11)) p326 q326
               cases e326
               replace hx326_0:=yC HB.out hx326_0
               replace hx326_1:=yC HB.out hx326_1
               replace hx326_2:=yC HB.out hx326_2
               replace hx326_3:=yC HB.out hx326_3
               have HR326_3:=yA hi326_3
               have HC326_3:=yA hl326_3
               clear hi326_3 hl326_3
               replace p326:=eq_true p326
               replace q326:=eq_true q326
               have p327:0≤(x5_1:Int):=yD
               have q327:x5_1<(l0_1.length:Int):=yD
               obtain ⟨ad327,A327_3,c327_3,e327,hx327_0,hx327_1,hx327_2,hx327_3,hl327_3,hi327_3⟩:=BZ HR0_1.out x5_1 p327 q327
               obtain rfl:ad326=ad327:=(by injection e327)
               replace hx327_0:=yC HB.out hx327_0
               replace hx327_1:=yC HB.out hx327_1
               replace hx327_2:=yC HB.out hx327_2
               replace hx327_3:=yC HB.out hx327_3
               have HR327_3:=yA hi327_3
               have HC327_3:=yA hl327_3
               clear hi327_3 hl327_3
               replace p327:=eq_true p327
               replace q327:=eq_true q327
               go_wp2
               repeat (go_quiet (fail); try go_wp2)
               go_roundg k2
               case measure=>have:=HK1.out; have:=HK2.out; omega
               case rel=>exact ⟨(ji11),(by first|rfl|(simp; done)|(simp only [←hji11]<;>(first|rfl|simp))|(simp [*]; done)),H',⟨by have:=HK1.out; have:=HK2.out; omega⟩,⟨by (with_reducible repeat (first|apply Kd.R_alloc|apply Kd.R_drewN|apply Kd.R_drew)); exact HO_4.out⟩,⟨by (with_reducible repeat (first|refine AF ?_ _|refine AH ?_|refine AG ?_ _)); exact BK323.out⟩,⟨by repeat (first|(with_reducible first|exact HB.out|apply AE|apply AC|apply AD|refine AI ?_ GE323.out)|exact HB.out)⟩⟩
              ·rw [if_neg c18] at H
               have c18b0:decide (((AL l0_1 x5_1).f2)<((AL l0_1 (rd x4_1 (ji11))).f2))=false:=decide_eq_false c18
               clear c18
               replace H:=Option.bind_eq_some_iff.mp H
               obtain ⟨t328,A200,H⟩:=H
               replace H:(Am.l0 k2 t328 (wrap64 (x5_1+1)) A8 l0_1)=some (r1,r2):=H
               have A20:=yA A200
               clear A200
               have H':=yA H
               clear H
               have hcz21_0:wr.cell? ⟨gb323,0,none⟩=some (.int .i64 A8):=(AK BK323.out 0).trans rfl
               have hcz21_1:wr.cell? ⟨gb323,1,none⟩=some (.slice A0_1 l0_1.length c0_1):=(AK BK323.out 1).trans rfl
               have hfz21_0:=AJ BK323.out 0
               have hfz21_1:=AJ BK323.out 1
               have p325:0≤((ji11):Int):=yD
               have q325:(ji11)<(x4_1.length:Int):=yD
               obtain ⟨ad325,e325,hx325_0⟩:=Kd.at_int (Kd.R_reads' HO_4.out).2.2 (ji11) p325 q325
               cases e325
               replace p325:=eq_true p325
               replace q325:=eq_true q325
               have p326:0≤((rd x4_1 (ji11)):Int):=yD
               have q326:(rd x4_1 (ji11))<(l0_1.length:Int):=yD
               obtain ⟨ad326,A326_3,c326_3,e326,hx326_0,hx326_1,hx326_2,hx326_3,hl326_3,hi326_3⟩:=BZ HR0_1.out (rd x4_1 (ji11)) p326 q326
               cases e326
               replace hx326_0:=yC HB.out hx326_0
               replace hx326_1:=yC HB.out hx326_1
               replace hx326_2:=yC HB.out hx326_2
               replace hx326_3:=yC HB.out hx326_3
               have HR326_3:=yA hi326_3
               have HC326_3:=yA hl326_3
               clear hi326_3 hl326_3
               replace p326:=eq_true p326
               replace q326:=eq_true q326
               have p327:0≤(x5_1:Int):=yD
               have q327:x5_1<(l0_1.length:Int):=yD
               obtain ⟨ad327,A327_3,c327_3,e327,hx327_0,hx327_1,hx327_2,hx327_3,hl327_3,hi327_3⟩:=BZ HR0_1.out x5_1 p327 q327
               obtain rfl:ad326=ad327:=(by injection e327)
               replace hx327_0:=yC HB.out hx327_0
               replace hx327_1:=yC HB.out hx327_1
               replace hx327_2:=yC HB.out hx327_2
               replace hx327_3:=yC HB.out hx327_3
               have HR327_3:=yA hi327_3
               have HC327_3:=yA hl327_3
               clear hi327_3 hl327_3
               replace p327:=eq_true p327
               replace q327:=eq_true q327
               go_wp2_with fail
               go_quiet (fail)
               try go_wp2_with fail
               obtain ⟨Ap_,cp_,ep_⟩:=Kd.R_slice HO_4.out
               (first|subst ep_|(injection ep_ with f1_ f2_ f3_; have f4_:=f1_.symm; have f5_:=f3_.symm; clear f1_ f2_ f3_; subst f4_; subst f5_))
               refine Dh x6_2 x5_1 x4_1 t328 _ _ _ _ _ _ _ _ _ _ _ _ _ _ _ _ _ _ _ _ _ _ _ _ _ _ _ _ _ _ _ _ _ _ _ _ _ _ _ _ _ _ _ _ _ _ _ _ _ _ _ _ _ _ _ _ _ zB7 A20.out (fun _ _ _ _ _ h=>h) (fun vp_ w22 _ _ _ _ _ _ _ _ _ _ _ _ ho hb=> ?_)
               have n1_:=yA (Kd.R_lower (base':=w.heap.size) ho (AQ (AD zA6)))
               have n2_:=yA (AP (g:=gb323) (o:= .cells #[.int .i64 A8,.slice (some ad326) l0_1.length c0_1] 24 (0,0)) (AH zC3) hb)
               have n3_:=yA (AO (AD zA6) hb)
               clear HO_4; clear BK323; clear HB; have HO330:=n1_; have BK323:=n2_; have HB:=n3_; clear n1_ n2_ n3_; clear ho hb
               go_wp2
               go_roundg k2
               case measure=>have:=HK1.out; have:=HK2.out; omega
               case rel=>exact ⟨(t328),(wrap64 (x5_1+1)),zH,H',⟨by have:=HK1.out; have:=HK2.out; omega⟩,⟨by (with_reducible repeat (first|apply Kd.R_alloc|apply Kd.R_drewN|apply Kd.R_drew)); exact Kd.R_mono HO330.out (fun _ hk=>trivial)⟩,⟨by (with_reducible repeat (first|refine AF ?_ _|refine AH ?_|refine AG ?_ _)); exact BK323.out⟩,⟨by repeat (first|(with_reducible first|exact HB.out|apply AE|apply AC|apply AD|refine AI ?_ GE323.out)|exact HB.out)⟩⟩
             ·rw [if_neg c17] at H
              exact absurd H zA5
            ·rw [if_neg c16] at H
             exact absurd H zA5
           ·rw [if_neg c15] at H
            exact absurd H zA5
          ·rw [if_neg c14] at H
           exact absurd H zA5
         ·rw [if_neg c13] at H
          exact absurd H zA5
        ·rw [if_neg c12] at H
         exact absurd H zA5
       ·rw [if_neg c10] at H
        have c10b0:decide (0<x6_2)=false:=decide_eq_false c10
        clear c10
        replace H:=Option.bind_eq_some_iff.mp H
        obtain ⟨t331,A230,H⟩:=H
        replace H:(Am.l0 k2 t331 (wrap64 (x5_1+1)) A8 l0_1)=some (r1,r2):=H
        have A23:=yA A230
        clear A230
        have H':=yA H
        clear H
        go_wp2_with fail
        go_quiet (fail)
        try go_wp2_with fail
        obtain ⟨Ap_,cp_,ep_⟩:=Kd.R_slice HO_4.out
        (first|subst ep_|(injection ep_ with f1_ f2_ f3_; have f4_:=f1_.symm; have f5_:=f3_.symm; clear f1_ f2_ f3_; subst f4_; subst f5_))
        refine Dh x6_2 x5_1 x4_1 t331 _ _ _ _ _ _ _ _ _ _ _ _ _ _ _ _ _ _ _ _ _ _ _ _ _ _ _ _ _ _ _ _ _ _ _ _ _ _ _ _ _ _ _ _ _ _ _ _ _ _ _ _ _ _ _ _ _ zB7 A23.out (fun _ _ _ _ _ h=>h) (fun vp_ w24 _ _ _ _ _ _ _ _ _ _ _ _ ho hb=> ?_)
        have n1_:=yA (Kd.R_lower (base':=w.heap.size) ho (AQ (AD zA6)))
        have n2_:=yA (AP (g:=gb323) (o:= .cells #[.int .i64 A8,.slice A0_1 l0_1.length c0_1] 24 (0,0)) (AH zC3) hb)
        have n3_:=yA (AO (AD zA6) hb)
        clear HO_4; clear BK323; clear HB; have HO333:=n1_; have BK323:=n2_; have HB:=n3_; clear n1_ n2_ n3_; clear ho hb
        go_wp2
        go_roundg k2
        case measure=>have:=HK1.out; have:=HK2.out; omega
        case rel=>exact ⟨(t331),(wrap64 (x5_1+1)),zH,H',⟨by have:=HK1.out; have:=HK2.out; omega⟩,⟨by (with_reducible repeat (first|apply Kd.R_alloc|apply Kd.R_drewN|apply Kd.R_drew)); exact Kd.R_mono HO333.out (fun _ hk=>trivial)⟩,⟨by (with_reducible repeat (first|refine AF ?_ _|refine AH ?_|refine AG ?_ _)); exact BK323.out⟩,⟨by repeat (first|(with_reducible first|exact HB.out|apply AE|apply AC|apply AD|refine AI ?_ GE323.out)|exact HB.out)⟩⟩
    ·rw [if_neg c7] at H
     have c7b0:decide (x5_1<(l0_1.length:Int))=false:=decide_eq_false c7
     clear c7
     simp only [Option.some.injEq,Prod.mk.injEq] at H
     obtain ⟨rfl,rfl⟩:=H
     have hcz25_0:wr.cell? ⟨gb323,0,none⟩=some (.int .i64 A8):=(AK BK323.out 0).trans rfl
     have hcz25_1:wr.cell? ⟨gb323,1,none⟩=some (.slice A0_1 l0_1.length c0_1):=(AK BK323.out 1).trans rfl
     have hfz25_0:=AJ BK323.out 0
     have hfz25_1:=AJ BK323.out 1
     go_wp2
     repeat (go_quiet (fail); try go_wp2)
     go_ret2
     exact ⟨_,by first|rfl|(simp [AY,AX]<;>rfl)|(simp [*,AY,AX]<;>rfl),by (with_reducible repeat (first|apply Kd.R_alloc|apply Kd.R_drewN|apply Kd.R_drew)); exact HO_4.out,by repeat (first|(with_reducible first|exact HB.out|apply AE|apply AC|apply AD|refine AI ?_ GE323.out)|exact HB.out)⟩
 ·replace c3:=Bool.eq_false_iff.mpr c3
  subst c3
  have H1:(some (([]:List Int),1))=some (r1,r2):=by rw [if_neg (show ¬(false=true) by decide)] at H; exact H
  clear H
  have H:=H1
  clear H1
  simp only [Option.some.injEq,Prod.mk.injEq] at H
  obtain ⟨rfl,rfl⟩:=H
  go_enter Try.func25,Try.ntmps25
  go_wp2_with (first|((with_reducible refine Aq (N:=1) rfl ?_); refine Av ?hg (N:=1) ?hd (cs:= #[.int .i64 A8,.slice A0_1 l0_1.length c0_1]) (t:=24) ?hr ?_; (case hd=>rfl); (case hg=>rfl); (case hr=>first|(go_simp; done)|(go_simp; rfl)); intro gb323 hg w26 hbox hb; have n0_:=yA (AO zB hb); have n1_:=yA (hbox); have n2_:=yA ((by rw [hg]; exact (AQ zB):w.heap.size≤gb323)); have n3_:=yA ((by rw [hg]; exact (AQ zB):w.heap.size≤gb323)); clear HB; have HB:=n0_; have BK323:=n1_; have GW323:=n2_; have GE323:=n3_; clear n0_ n1_ n2_ n3_; clear hb hbox hg; have hcz27_0:w26.cell? ⟨gb323,0,none⟩=some (.int .i64 A8):=(AK BK323.out 0).trans rfl; have hcz27_1:w26.cell? ⟨gb323,1,none⟩=some (.slice A0_1 l0_1.length c0_1):=(AK BK323.out 1).trans rfl; have hfz27_0:=AJ BK323.out 0; have hfz27_1:=AJ BK323.out 1)|(go_at_call 36; (with_reducible refine (AS.calls k A8 _ _ l0_1 false _ ?side1 ?side2 A2.out).mono ?_); (case side1=>repeat (first|exact (Kd.C_below HR0_1.out HB.out)|(with_reducible refine Kd.C_alloc ?_ _)|(with_reducible refine Kd.C_drewN ?_ _)|(with_reducible refine Kd.C_drew ?_))); (case side2=>exact HC0_1.out); rintro e w28 ⟨rfl,hb⟩; have n0_:=yA (AP (g:=gb323) (o:= .cells #[.int .i64 A8,.slice A0_1 l0_1.length c0_1] 24 (0,0)) zC3 hb); have n1_:=yA (AO zA6 hb); clear BK323; clear HB; have BK323:=n0_; have HB:=n1_; clear n0_ n1_; (try clear hb); (try clear hb2); (try clear hk); (try clear hi)))
  repeat (go_quiet (first|((with_reducible refine Aq (N:=1) rfl ?_); refine Av ?hg (N:=1) ?hd (cs:= #[.int .i64 A8,.slice A0_1 l0_1.length c0_1]) (t:=24) ?hr ?_; (case hd=>rfl); (case hg=>rfl); (case hr=>first|(go_simp; done)|(go_simp; rfl)); intro gb323 hg w26 hbox hb; have n0_:=yA (AO zB hb); have n1_:=yA (hbox); have n2_:=yA ((by rw [hg]; exact (AQ zB):w.heap.size≤gb323)); have n3_:=yA ((by rw [hg]; exact (AQ zB):w.heap.size≤gb323)); clear HB; have HB:=n0_; have BK323:=n1_; have GW323:=n2_; have GE323:=n3_; clear n0_ n1_ n2_ n3_; clear hb hbox hg; have hcz27_0:w26.cell? ⟨gb323,0,none⟩=some (.int .i64 A8):=(AK BK323.out 0).trans rfl; have hcz27_1:w26.cell? ⟨gb323,1,none⟩=some (.slice A0_1 l0_1.length c0_1):=(AK BK323.out 1).trans rfl; have hfz27_0:=AJ BK323.out 0; have hfz27_1:=AJ BK323.out 1)|(go_at_call 36; (with_reducible refine (AS.calls k A8 _ _ l0_1 false _ ?side1 ?side2 A2.out).mono ?_); (case side1=>repeat (first|exact (Kd.C_below HR0_1.out HB.out)|(with_reducible refine Kd.C_alloc ?_ _)|(with_reducible refine Kd.C_drewN ?_ _)|(with_reducible refine Kd.C_drew ?_))); (case side2=>exact HC0_1.out); rintro e w28 ⟨rfl,hb⟩; have n0_:=yA (AP (g:=gb323) (o:= .cells #[.int .i64 A8,.slice A0_1 l0_1.length c0_1] 24 (0,0)) zC3 hb); have n1_:=yA (AO zA6 hb); clear BK323; clear HB; have BK323:=n0_; have HB:=n1_; clear n0_ n1_; (try clear hb); (try clear hb2); (try clear hk); (try clear hi); clear A2)); try go_wp2_with (first|((with_reducible refine Aq (N:=1) rfl ?_); refine Av ?hg (N:=1) ?hd (cs:= #[.int .i64 A8,.slice A0_1 l0_1.length c0_1]) (t:=24) ?hr ?_; (case hd=>rfl); (case hg=>rfl); (case hr=>first|(go_simp; done)|(go_simp; rfl)); intro gb323 hg w26 hbox hb; have n0_:=yA (AO zB hb); have n1_:=yA (hbox); have n2_:=yA ((by rw [hg]; exact (AQ zB):w.heap.size≤gb323)); have n3_:=yA ((by rw [hg]; exact (AQ zB):w.heap.size≤gb323)); clear HB; have HB:=n0_; have BK323:=n1_; have GW323:=n2_; have GE323:=n3_; clear n0_ n1_ n2_ n3_; clear hb hbox hg; have hcz27_0:w26.cell? ⟨gb323,0,none⟩=some (.int .i64 A8):=(AK BK323.out 0).trans rfl; have hcz27_1:w26.cell? ⟨gb323,1,none⟩=some (.slice A0_1 l0_1.length c0_1):=(AK BK323.out 1).trans rfl; have hfz27_0:=AJ BK323.out 0; have hfz27_1:=AJ BK323.out 1)|(go_at_call 36; (with_reducible refine (AS.calls k A8 _ _ l0_1 false _ ?side1 ?side2 A2.out).mono ?_); (case side1=>repeat (first|exact (Kd.C_below HR0_1.out HB.out)|(with_reducible refine Kd.C_alloc ?_ _)|(with_reducible refine Kd.C_drewN ?_ _)|(with_reducible refine Kd.C_drew ?_))); (case side2=>exact HC0_1.out); rintro e w28 ⟨rfl,hb⟩; have n0_:=yA (AP (g:=gb323) (o:= .cells #[.int .i64 A8,.slice A0_1 l0_1.length c0_1] 24 (0,0)) zC3 hb); have n1_:=yA (AO zA6 hb); clear BK323; clear HB; have BK323:=n0_; have HB:=n1_; clear n0_ n1_; (try clear hb); (try clear hb2); (try clear hk); (try clear hi); clear A2)))
  go_ret2
  exact ⟨_,by first|rfl|(simp [AY,AX]<;>rfl)|(simp [*,AY,AX]<;>rfl),by first|exact Kd.R_nil _ _ _ _ _|exact Kd.N_nil _ _ _ _ _|exact Kd.V_nil _ _ _ _ _|exact Kd.Q_nil _ _ _ _ _|exact Kd.S_nil _ _ _ _ _,by repeat (first|(with_reducible first|exact HB.out|apply AE|apply AC|apply AD|refine AI ?_ GE323.out)|exact HB.out)⟩
def Aw.l0:Nat→List (S54)→List (S54)→Int→Option (Bool)
 |0,_,_,_=>none
 |k+1,x0,x1,x5=>if x5<(x0.length:Int) then (if 0≤x5 then (if x5<(x1.length:Int) then (if (!(((Be x0 x5).f0)==((Be x1 x5).f0))||(!(((Be x0 x5).f1)==((Be x1 x5).f1))))=true then (some false) else (Aw.l0 k x0 x1 (wrap64 (x5+1)))) else (none)) else (none)) else (some true)
def Aw.f (k:Nat) (l0:List (S54)) (l1:List (S54)):Option (Bool):=if (l0.length:Int)=(l1.length:Int) then (Aw.l0 k l0 l1 0) else (some false)
set_option maxHeartbeats 8000000 in
theorem Aw.calls (k:Nat) (A0:Option Addr) (c0:Nat) (l0:List (S54)) (A1:Option Addr) (c1:Nat) (l1:List (S54)) (r:Bool) (w:World) (hr0:Kd.C k54 w A0 l0.length l0) (hc0:l0.length≤c0) (hr1:Kd.C k54 w A1 l1.length l1) (hc1:l1.length≤c1) (h:Aw.f k l0 l1=some r):
  Calls Try.prog 26 #[.slice A0 l0.length c0,.slice A1 l1.length c1] w fun e w'=>e= .returned (.bool r)∧Drawn0 w w':=by
 have hu54:=Try.underlying54
 have HR0:=yA hr0
 have HC0:=yA hc0
 clear hr0 hc0
 have HR1:=yA hr1
 have HC1:=yA hc1
 clear hr1 hc1
 have H:(if (l0.length:Int)=(l1.length:Int) then (Aw.l0 k l0 l1 0) else (some false))=some r:=h
 clear h
 by_cases c3:(l0.length:Int)=(l1.length:Int)
 ·rw [if_pos c3] at H
  have c3b0:((l0.length:Int)==(l1.length:Int))=true:=beq_iff_eq.mpr c3
  have c3b1:((l0.length:Int) !=(l1.length:Int))=false:=bne_eq_false_iff_eq.mpr c3
  have c3b2:(l0.length==l1.length)=true:=by first|simpa using c3|(simp at c3 ⊢; omega)
  clear c3
  have H':=yA H
  clear H
  go_enter Try.func26,Try.ntmps26
  go_wp2
  repeat (go_quiet (fail); try go_wp2)
  go_loopg [5] k (fun kq v5 w'=>∃(x5_1:Int),v5= .int .i64 x5_1∧Aside0 (Aw.l0 kq l0 l1 x5_1=some r)∧Aside0 (kq≤k)∧Drawn0 w w')
  case atStart=>exact ⟨(0),zH,H',⟨Nat.le_refl _⟩,by repeat (first|exact Drawn0.refl _|apply Drawn0.step)⟩
  case round=>
   clear H'
   try clear c1
   try clear c2
   try clear p2
   try clear c3
   try clear c3b0
   try clear c3b1
   try clear c3b2
   obtain ⟨x5_1,rfl,HA,HK1,⟨m1,rfl⟩⟩:=hrel
   cases gk with
   |zero=>exact absurd HA.out (by simp [Aw.l0])
   | succ k1 =>
    have H:=HA.out
    clear HA
    simp only [Aw.l0] at H
    by_cases c4:x5_1<(l0.length:Int)
    ·rw [if_pos c4] at H
     have c4b0:decide (x5_1<(l0.length:Int))=true:=decide_eq_true c4
     clear c4
     by_cases c5:0≤x5_1
     ·rw [if_pos c5] at H
      have c5b0:decide (0≤x5_1)=true:=decide_eq_true c5
      clear c5
      by_cases c6:x5_1<(l1.length:Int)
      ·rw [if_pos c6] at H
       have c6b0:decide (x5_1<(l1.length:Int))=true:=decide_eq_true c6
       clear c6
       by_cases c7:(!(((Be l0 x5_1).f0)==((Be l1 x5_1).f0))||(!(((Be l0 x5_1).f1)==((Be l1 x5_1).f1))))=true
       ·rw [if_pos c7] at H
        have c7b0:(!(((Be l0 x5_1).f0)==((Be l1 x5_1).f0))||(!(((Be l0 x5_1).f1)==((Be l1 x5_1).f1))))=true:=c7
        clear c7
        obtain rfl:=Option.some.inj H
        have p334:0≤(x5_1:Int):=yD
        have q334:x5_1<(l0.length:Int):=yD
        obtain ⟨ad334,e334,hx334_0,hx334_1⟩:=Dv HR0.out x5_1 p334 q334
        cases e334
        replace p334:=eq_true p334
        replace q334:=eq_true q334
        have p335:0≤(x5_1:Int):=yD
        have q335:x5_1<(l1.length:Int):=yD
        obtain ⟨ad335,e335,hx335_0,hx335_1⟩:=Dv HR1.out x5_1 p335 q335
        cases e335
        replace p335:=eq_true p335
        replace q335:=eq_true q335
        go_wp2
        repeat (go_quiet (fail); try go_wp2)
        go_ret
        exact ⟨by first|rfl|(simp; done)|(simp [*]; done),by repeat (first|exact Drawn0.refl _|apply Drawn0.step)⟩
       ·rw [if_neg c7] at H
        have c7b0:(!(((Be l0 x5_1).f0)==((Be l1 x5_1).f0))||(!(((Be l0 x5_1).f1)==((Be l1 x5_1).f1))))=false:=by simpa using c7
        clear c7
        have H':=yA H
        clear H
        have p334:0≤(x5_1:Int):=yD
        have q334:x5_1<(l0.length:Int):=yD
        obtain ⟨ad334,e334,hx334_0,hx334_1⟩:=Dv HR0.out x5_1 p334 q334
        cases e334
        replace p334:=eq_true p334
        replace q334:=eq_true q334
        have p335:0≤(x5_1:Int):=yD
        have q335:x5_1<(l1.length:Int):=yD
        obtain ⟨ad335,e335,hx335_0,hx335_1⟩:=Dv HR1.out x5_1 p335 q335
        cases e335
        replace p335:=eq_true p335
        replace q335:=eq_true q335
        go_wp2
        repeat (go_quiet (fail); try go_wp2)
        go_roundg k1
        case measure=>have:=HK1.out; omega
        case rel=>exact ⟨(wrap64 (x5_1+1)),zH,H',⟨by have:=HK1.out; omega⟩,by repeat (first|exact Drawn0.refl _|apply Drawn0.step)⟩
      ·rw [if_neg c6] at H
       exact absurd H zA5
     ·rw [if_neg c5] at H
      exact absurd H zA5
    ·rw [if_neg c4] at H
     have c4b0:decide (x5_1<(l0.length:Int))=false:=decide_eq_false c4
     clear c4
     obtain rfl:=Option.some.inj H
     go_wp2
     repeat (go_quiet (fail); try go_wp2)
     go_ret
     exact ⟨by first|rfl|(simp; done)|(simp [*]; done),by repeat (first|exact Drawn0.refl _|apply Drawn0.step)⟩
 ·rw [if_neg c3] at H
  have c3b0:((l0.length:Int)==(l1.length:Int))=false:=beq_eq_false_iff_ne.mpr c3
  have c3b1:((l0.length:Int) !=(l1.length:Int))=true:=bne_iff_ne.mpr c3
  have c3b2:(l0.length==l1.length)=false:=by first|simpa using c3|(simp at c3 ⊢; omega)
  obtain rfl:=Option.some.inj H
  go_enter Try.func26,Try.ntmps26
  go_wp2
  repeat (go_quiet (fail); try go_wp2)
  go_ret
  exact ⟨by first|rfl|(simp; done)|(simp [*]; done),by repeat (first|exact Drawn0.refl _|apply Drawn0.step)⟩
def Ar.l0:Nat→List (S54)→List (S47)→Int→Int→Option ((List (S54)))
 |0,_,_,_,_=>none
 |k+1,x3,x6,x7,x8=>if x8<x7 then (if 0≤x8 then (if x8<(x6.length:Int) then (if x3.length<8796093022208 then (Ar.l0 k (x3++[(⟨(Au x6 x8).f0,(Au x6 x8).f1⟩:S54)]) x6 x7 (wrap64 (x8+1))) else (none)) else (none)) else (none)) else (some x3)
def Ar.f (k:Nat) (l0:List (S47)):Option ((List (S54))):=Ar.l0 k ([]:List (S54)) l0 (l0.length:Int) 0
set_option maxHeartbeats 8000000 in
theorem Ar.calls (k:Nat) (A0:Option Addr) (c0:Nat) (l0:List (S47)) (r:List (S54)) (w:World) (hr0:Kd.C k47 w A0 l0.length l0) (hc0:l0.length≤c0) (h:Ar.f k l0=some r):
  Calls Try.prog 27 #[.slice A0 l0.length c0] w fun e w'=>∃v0_:Value,e= .returned (v0_)∧Kd.R k54 54 w' w.heap.size (fun _=>True) v0_ r∧Below w.heap.size w w':=by
 have hu47:=Try.underlying47
 have HR0:=yA hr0
 have HC0:=yA hc0
 clear hr0 hc0
 have HB:=yA (Below.refl w.heap.size w)
 have H:(Ar.l0 k ([]:List (S54)) l0 (l0.length:Int) 0)=some r:=h
 clear h
 have H':=yA H
 clear H
 go_enter Try.func27,Try.ntmps27
 go_wp2
 go_loopg [3,8] k (fun kq v3 v8 w'=>∃(x3_1:List (S54)) (x8_1:Int),v8= .int .i64 x8_1∧Aside0 (Ar.l0 kq x3_1 l0 (l0.length:Int) x8_1=some r)∧Aside0 (kq≤k)∧Aside0 (Kd.R k54 54 w' w.heap.size (fun _=>True) v3 x3_1)∧Aside0 (Below w.heap.size w w'))
 case atStart=>exact ⟨(([]:List (S54))),(0),zH,H',⟨Nat.le_refl _⟩,⟨by first|exact Kd.R_nil _ _ _ _ _|exact Kd.N_nil _ _ _ _ _|exact Kd.V_nil _ _ _ _ _|exact Kd.Q_nil _ _ _ _ _|exact Kd.S_nil _ _ _ _ _⟩,⟨by repeat (first|(with_reducible first|exact HB.out|apply AE|apply AC|apply AD)|exact HB.out)⟩⟩
 case round=>
  clear H'
  obtain ⟨x3_1,x8_1,rfl,HA,HK1,HO_3,HB⟩:=hrel
  cases gk with
  |zero=>exact absurd HA.out (by simp [Ar.l0])
  | succ k1 =>
   have H:=HA.out
   clear HA
   simp only [Ar.l0] at H
   by_cases c2:x8_1<(l0.length:Int)
   ·rw [if_pos c2] at H
    have c2b0:decide (x8_1<(l0.length:Int))=true:=decide_eq_true c2
    clear c2
    by_cases c3:0≤x8_1
    ·rw [if_pos c3] at H
     have c3b0:decide (0≤x8_1)=true:=decide_eq_true c3
     clear c3
     by_cases c4:x8_1<(l0.length:Int)
     ·rw [if_pos c4] at H
      have c4b0:decide (x8_1<(l0.length:Int))=true:=decide_eq_true c4
      clear c4
      by_cases c5:x3_1.length<8796093022208
      ·rw [if_pos c5] at H
       have LMc5:=yA c5
       clear c5
       obtain ⟨y338,hy338⟩:∃y_:List (S54),y_=(x3_1++[(⟨(Au l0 x8_1).f0,(Au l0 x8_1).f1⟩:S54)]):=⟨_,rfl⟩
       replace H:(Ar.l0 k1 y338 l0 (l0.length:Int) (wrap64 (x8_1+1)))=some r:=by first|(rw [hy338]; with_reducible exact H)|(have H2_:=(Option.bind_some _ _).symm.trans H; rw [hy338]; with_reducible exact H2_)|(have H2_:=(Option.bind_some _ _).symm.trans H; with_reducible exact H2_)|with_reducible exact H|(rw [hy338]; exact H)|exact H
       have Ny338:=yA hy338
       clear hy338
       have H':=yA H
       clear H
       have p336:0≤(x8_1:Int):=yD
       have q336:x8_1<(l0.length:Int):=yD
       obtain ⟨ad336,e336,hx336_0,hx336_1⟩:=Bp HR0.out x8_1 p336 q336
       cases e336
       replace hx336_0:=yC HB.out hx336_0
       replace hx336_1:=yC HB.out hx336_1
       replace p336:=eq_true p336
       replace q336:=eq_true q336
       go_wp2_with (first|((with_reducible refine Aq (N:=5) rfl ?_); refine Av ?hg (N:=5) ?hd (cs:= #[.int .i64 0,.int .i64 0]) (t:=47) ?hr ?_; (case hd=>rfl); (case hg=>rfl); (case hr=>first|(go_simp; done)|(go_simp; rfl)); intro gb337 hg w6 hbox hb; have n0_:=yA (Kd.R_below (by (with_reducible repeat (first|apply Kd.R_alloc|apply Kd.R_drewN|apply Kd.R_drew)); exact HO_3.out) hb); have n1_:=yA (AO zB hb); have n2_:=yA (hbox); have n3_:=yA ((by rw [hg]; exact (AQ zB):w.heap.size≤gb337)); have n4_:=yA ((by rw [hg]; exact (AQ zB):w.heap.size≤gb337)); clear HO_3; clear HB; have HO_3:=n0_; have HB:=n1_; have BK337:=n2_; have GW337:=n3_; have GE337:=n4_; clear n0_ n1_ n2_ n3_ n4_; clear hb hbox hg; have hcz7_0:w6.cell? ⟨gb337,0,none⟩=some (.int .i64 0):=(AK BK337.out 0).trans rfl; have hcz7_1:w6.cell? ⟨gb337,1,none⟩=some (.int .i64 0):=(AK BK337.out 1).trans rfl; have hfz7_0:=AJ BK337.out 0; have hfz7_1:=AJ BK337.out 1)|((with_reducible refine CB (b:= .append) (xs:= #[.tmp 12,.tmp 14]) rfl ?_); at_builtin; refine Kd.R_append k54 (w0:=w) w.heap.size rfl (.tmp 12) (.tmp 14) 25 54 (.agg #[(.int .i64 0),(.int .i64 0)]) 16 rfl Try.underlying25 info54 rfl zA0 zE u3 x3_1 (⟨(Au l0 x8_1).f0,(Au l0 x8_1).f1⟩:S54) [.int .i64 ((Au l0 x8_1).f0),.int .i64 ((Au l0 x8_1).f1)] (fun _=>True) (fun _=>False) rfl (by first|(go_simp; done)|(go_simp; rfl)) ?aP (fun _ hk=>hk.elim) ?aF ?aO ?aB ?aS ?aL ?_; (case aP=>exact CR _ _ _ (⟨(Au l0 x8_1).f0,(Au l0 x8_1).f1⟩:S54)); (case aB=>exact (by repeat (first|(with_reducible first|exact HB.out|apply AE|apply AC|apply AD|refine AI ?_ GE337.out)|exact HB.out))); (case aF=>exact (fun _ _=>trivial)); (case aO=>exact (by (with_reducible repeat (first|apply Kd.R_alloc|apply Kd.R_drewN|apply Kd.R_drew)); exact Kd.R_mono (Kd.R_far (p:=⟨gb337,1,none⟩) (Kd.R_far (p:=⟨gb337,0,none⟩) (Kd.R_types HO_3.out BK337.out zA0) (fun _ hk=>hk.2) (.int .i64 ((Au l0 x8_1).f0))) (fun _ hk=>hk.2) (.int .i64 ((Au l0 x8_1).f1))) (fun _ hk=>trivial))); (case aS=>exact (AQ (by repeat (first|(with_reducible first|exact HB.out|apply AE|apply AC|apply AD|refine AI ?_ GE337.out)|exact HB.out)))); (case aL=>have:=LMc5.out; omega); intro v339 w8 ho hb hg hat; rw [←Ny338.out] at ho; have n0_:=yA (BJ (g:=gb337) (o:= .cells #[.int .i64 ((Au l0 x8_1).f0),.int .i64 ((Au l0 x8_1).f1)] 47 (0,0)) (by (with_reducible repeat (first|refine AF ?_ _|refine AH ?_|refine AG ?_ _)); refine An (cs:= #[.int .i64 ((Au l0 x8_1).f0),.int .i64 0]) ?_ 1 _ rfl; (with_reducible repeat (first|refine AF ?_ _|refine AH ?_|refine AG ?_ _)); refine An (cs:= #[.int .i64 0,.int .i64 0]) ?_ 0 _ rfl; (with_reducible repeat (first|refine AF ?_ _|refine AH ?_|refine AG ?_ _)); exact BK337.out) hg (Kd.R_ne HO_3.out BK337.out zA0)); have n1_:=yA (hb); have n2_:=yA (ho); clear BK337; clear HB; clear HO_3; have BK337:=n0_; have HB:=n1_; have HO340:=n2_; clear n0_ n1_ n2_; clear ho hb hg hat))
       go_roundg k1
       case measure=>have:=HK1.out; omega
       case rel=>exact ⟨(y338),(wrap64 (x8_1+1)),zH,H',⟨by have:=HK1.out; omega⟩,⟨by (with_reducible repeat (first|apply Kd.R_alloc|apply Kd.R_drewN|apply Kd.R_drew)); exact HO340.out⟩,⟨by repeat (first|(with_reducible first|exact HB.out|apply AE|apply AC|apply AD|refine AI ?_ GE337.out)|exact HB.out)⟩⟩
      ·rw [if_neg c5] at H
       exact absurd H zA5
     ·rw [if_neg c4] at H
      exact absurd H zA5
    ·rw [if_neg c3] at H
     exact absurd H zA5
   ·rw [if_neg c2] at H
    have c2b0:decide (x8_1<(l0.length:Int))=false:=decide_eq_false c2
    clear c2
    obtain rfl:=Option.some.inj H
    go_wp2
    go_ret
    exact ⟨_,by first|rfl|(simp [AY,AX]<;>rfl)|(simp [*,AY,AX]<;>rfl),by (with_reducible repeat (first|apply Kd.R_alloc|apply Kd.R_drewN|apply Kd.R_drew)); exact HO_3.out,by repeat (first|(with_reducible first|exact HB.out|apply AE|apply AC|apply AD)|exact HB.out)⟩
end Go.Proofs.Ytdadecjefafflaa.PLst
end
section
namespace Go.Proofs.Ytdadecjefafflaa.PLst
set_option maxRecDepth 100000
open Go.RowKit Go.Proofs.YtdadecjefafflaaW.PrintWords Go.Proofs.YtdadecjefafflaaW.PrintLast Go.Proofs.YtdadecjefafflaaW.PrintMore
attribute [local go_sem] Bd Bb Bm Bk BU BT Bc Ba
mutual
def AU.l0:Nat→List Int→Int→Int→Option (Bool)
 |0,_,_,_=>none
 |k+1,x0,x1,x5=>if x5<x1 then (if 0≤x5 then (if x5<(x0.length:Int) then (if (rd x0 x5)<0 then (AU.j1 k x0 x1 x5 true) else (AU.j1 k x0 x1 x5 (decide ((rd x0 x5)≥x1)))) else (none)) else (none)) else (some true)
def AU.j1:Nat→List Int→Int→Int→Bool→Option (Bool)
 |0,_,_,_,_=>none
 |k+1,x0,x1,x5,x28=>if x28=true then (some false) else (AU.l1 k x0 x1 x5 0)
def AU.l1:Nat→List Int→Int→Int→Int→Option (Bool)
 |0,_,_,_,_=>none
 |k+1,x0,x1,x5,x6=>if x6<x5 then (if 0≤x6 then (if x6<(x0.length:Int) then (if 0≤x5 then (if x5<(x0.length:Int) then (if (rd x0 x6)=(rd x0 x5) then (some false) else (AU.l1 k x0 x1 x5 (wrap64 (x6+1)))) else (none)) else (none)) else (none)) else (none)) else (AU.l0 k x0 x1 (wrap64 (x5+1)))
end
def AU.f (k:Nat) (l0:List Int) (a1:Int):Option (Bool):=if (l0.length:Int)=a1 then (AU.l0 k l0 a1 0) else (some false)
set_option maxHeartbeats 8000000 in
theorem AU.calls (k:Nat) (A0:Option Addr) (c0:Nat) (l0:List Int) (a1:Int) (r:Bool) (w:World) (hr0:Kd.C (Kd.int .i64) w A0 l0.length l0) (hc0:l0.length≤c0) (h:AU.f k l0 a1=some r):
  Calls Try.prog 39 #[.slice A0 l0.length c0,.int .i64 a1] w fun e w'=>e= .returned (.bool r)∧Drawn0 w w':=by
 have HR0:=yA hr0
 have HC0:=yA hc0
 clear hr0 hc0
 have H:(if (l0.length:Int)=a1 then (AU.l0 k l0 a1 0) else (some false))=some r:=h
 clear h
 by_cases c3:(l0.length:Int)=a1
 ·rw [if_pos c3] at H
  have c3b0:((l0.length:Int)==a1)=true:=beq_iff_eq.mpr c3
  have c3b1:((l0.length:Int) !=a1)=false:=bne_eq_false_iff_eq.mpr c3
  clear c3
  have H':=yA H
  clear H
  go_enter Try.func39,Try.ntmps39
  go_wp2
  repeat (go_quiet (fail); try go_wp2)
  go_loopg [5] k (fun kq v5 w'=>∃(x5_1:Int),v5= .int .i64 x5_1∧Aside0 (AU.l0 kq l0 a1 x5_1=some r)∧Aside0 (kq≤k)∧Drawn0 w w')
  case atStart=>exact ⟨(0),zH,H',⟨Nat.le_refl _⟩,by repeat (first|exact Drawn0.refl _|apply Drawn0.step)⟩
  case round=>
   clear H'
   try clear p2
   try clear c3
   try clear c3b0
   try clear c3b1
   obtain ⟨x5_1,rfl,HA,HK1,⟨m1,rfl⟩⟩:=hrel
   cases gk with
   |zero=>exact absurd HA.out (by simp [AU.l0])
   | succ k1 =>
    have H:=HA.out
    clear HA
    simp only [AU.l0] at H
    by_cases c4:x5_1<a1
    ·rw [if_pos c4] at H
     have c4b0:decide (x5_1<a1)=true:=decide_eq_true c4
     clear c4
     have HC5:=yA H
     clear H
     go_upto_region 6 with (fail)
     repeat (go_quiet (fail); go_upto_region 6 with (fail))
     go_cut [28] (fun v28 wc=>∃(kq:Nat) (x28_4:Bool),v28= .bool x28_4∧Aside0 (AU.j1 kq l0 a1 x5_1 x28_4=some r)∧Aside0 (kq≤k1)∧Drawn0 w wc)
     case first=>
      have H:=HC5.out
      clear HC5
      by_cases c6:0≤x5_1
      ·rw [if_pos c6] at H
       have c6b0:decide (0≤x5_1)=true:=decide_eq_true c6
       clear c6
       (first|rw [c6b0]|(simp only [Aa,Ab]; rw [c6b0])|skip)
       by_cases c7:x5_1<(l0.length:Int)
       ·rw [if_pos c7] at H
        have c7b0:decide (x5_1<(l0.length:Int))=true:=decide_eq_true c7
        clear c7
        by_cases c8:(rd l0 x5_1)<0
        ·rw [if_pos c8] at H
         have c8b0:decide ((rd l0 x5_1)<0)=true:=decide_eq_true c8
         clear c8
         have H':=yA H
         clear H
         have p257:0≤(x5_1:Int):=yD
         have q257:x5_1<(l0.length:Int):=yD
         obtain ⟨ad257,e257,hx257_0⟩:=Kd.at_int HR0.out x5_1 p257 q257
         cases e257
         replace p257:=eq_true p257
         replace q257:=eq_true q257
         go_wp2
         repeat (go_quiet (fail); try go_wp2)
         go_meet
         case rel=>exact ⟨_,(true),zH,H',⟨by have:=HK1.out; first|omega|exact Nat.le_refl _⟩,by repeat (first|exact Drawn0.refl _|apply Drawn0.step)⟩
        ·rw [if_neg c8] at H
         have c8b0:decide ((rd l0 x5_1)<0)=false:=decide_eq_false c8
         clear c8
         have H':=yA H
         clear H
         have p257:0≤(x5_1:Int):=yD
         have q257:x5_1<(l0.length:Int):=yD
         obtain ⟨ad257,e257,hx257_0⟩:=Kd.at_int HR0.out x5_1 p257 q257
         cases e257
         replace p257:=eq_true p257
         replace q257:=eq_true q257
         have p258:0≤(x5_1:Int):=yD
         have q258:x5_1<(l0.length:Int):=yD
         obtain ⟨ad258,e258,hx258_0⟩:=Kd.at_int HR0.out x5_1 p258 q258
         obtain rfl:ad257=ad258:=(by injection e258)
         replace p258:=eq_true p258
         replace q258:=eq_true q258
         go_wp2
         repeat (go_quiet (fail); try go_wp2)
         go_meet
         case rel=>exact ⟨_,(decide ((rd l0 x5_1)≥a1)),zH,H',⟨by have:=HK1.out; first|omega|exact Nat.le_refl _⟩,by repeat (first|exact Drawn0.refl _|apply Drawn0.step)⟩
       ·rw [if_neg c7] at H
        exact absurd H zA5
      ·rw [if_neg c6] at H
       exact absurd H zA5
     case rest =>
      clear HC5
      try clear p2
      try clear q2
      try clear hx2
      try clear c3
      try clear c3b0
      try clear c3b1
      try clear c4
      try clear c4b0
      try clear c6
      try clear c6b0
      try clear c7
      try clear c7b0
      try clear c8
      try clear c8b0
      try clear hx257_0
      try clear hx258_0
      try clear p2
      try clear p257
      try clear p258
      try clear q257
      try clear q258
      obtain ⟨kq,x28_4,rfl,HA,HJ4,⟨mc4,rfl⟩⟩:=hcut
      cases kq with
      |zero=>exact absurd HA.out (by simp [AU.j1])
      | succ kj4=>
       have H:=HA.out
       clear HA
       simp only [AU.j1] at H
       by_cases c9:x28_4=true
       ·subst c9
        have H1:(some false)=some r:=by rw [if_pos rfl] at H; exact H
        clear H
        have H:=H1
        clear H1
        obtain rfl:=Option.some.inj H
        go_wp2
        repeat (go_quiet (fail); try go_wp2)
        go_ret
        exact ⟨by first|rfl|(simp; done)|(simp [*]; done),by repeat (first|exact Drawn0.refl _|apply Drawn0.step)⟩
       ·replace c9 := Bool.eq_false_iff.mpr c9
        subst c9
        have H1:(AU.l1 kj4 l0 a1 x5_1 0)=some r:=by rw [if_neg (show ¬(false=true) by decide)] at H; exact H
        clear H
        have H:=H1
        clear H1
        have H':=yA H
        clear H
        go_wp2
        repeat (go_quiet (fail); try go_wp2)
        go_loopg [6] kj4 (fun kq v6 w'=>∃(x6_3:Int),v6= .int .i64 x6_3∧Aside0 (AU.l1 kq l0 a1 x5_1 x6_3=some r)∧Aside0 (kq≤kj4)∧Drawn0 w w')
        case atStart=>exact ⟨(0),zH,H',⟨Nat.le_refl _⟩,by repeat (first|exact Drawn0.refl _|apply Drawn0.step)⟩
        case round=>
         clear H'
         try clear p2
         try clear q2
         try clear hx2
         try clear c3
         try clear c3b0
         try clear c3b1
         try clear c4
         try clear c4b0
         try clear c6
         try clear c6b0
         try clear c7
         try clear c7b0
         try clear c8
         try clear c8b0
         try clear c9
         try clear hx257_0
         try clear hx258_0
         try clear p2
         try clear p257
         try clear p258
         try clear q2
         try clear q257
         try clear q258
         obtain ⟨x6_3,rfl,HA,HK3,⟨m3,rfl⟩⟩:=hrel
         cases gk with
         |zero=>exact absurd HA.out (by simp [AU.l1])
         | succ k3 =>
          have H:=HA.out
          clear HA
          simp only [AU.l1] at H
          by_cases c10:x6_3<x5_1
          ·rw [if_pos c10] at H
           have c10b0:decide (x6_3<x5_1)=true:=decide_eq_true c10
           clear c10
           by_cases c11:0≤x6_3
           ·rw [if_pos c11] at H
            have c11b0:decide (0≤x6_3)=true:=decide_eq_true c11
            clear c11
            by_cases c12:x6_3<(l0.length:Int)
            ·rw [if_pos c12] at H
             have c12b0:decide (x6_3<(l0.length:Int))=true:=decide_eq_true c12
             clear c12
             by_cases c13:0≤x5_1
             ·rw [if_pos c13] at H
              have c13b0:decide (0≤x5_1)=true:=decide_eq_true c13
              clear c13
              by_cases c14:x5_1<(l0.length:Int)
              ·rw [if_pos c14] at H
               have c14b0:decide (x5_1<(l0.length:Int))=true:=decide_eq_true c14
               clear c14
               by_cases c15:(rd l0 x6_3)=(rd l0 x5_1)
               ·rw [if_pos c15] at H
                have c15b0:((rd l0 x6_3)==(rd l0 x5_1))=true:=beq_iff_eq.mpr c15
                have c15b1:((rd l0 x6_3) !=(rd l0 x5_1))=false:=bne_eq_false_iff_eq.mpr c15
                clear c15
                obtain rfl:=Option.some.inj H
                have p259:0≤(x6_3:Int):=yD
                have q259:x6_3<(l0.length:Int):=yD
                obtain ⟨ad259,e259,hx259_0⟩:=Kd.at_int HR0.out x6_3 p259 q259
                cases e259
                replace p259:=eq_true p259
                replace q259:=eq_true q259
                have p260:0≤(x5_1:Int):=yD
                have q260:x5_1<(l0.length:Int):=yD
                obtain ⟨ad260,e260,hx260_0⟩:=Kd.at_int HR0.out x5_1 p260 q260
                obtain rfl:ad259=ad260:=(by injection e260)
                replace p260:=eq_true p260
                replace q260:=eq_true q260
                go_wp2
                repeat (go_quiet (fail); try go_wp2)
                go_ret
                exact ⟨by first|rfl|(simp; done)|(simp [*]; done),by repeat (first|exact Drawn0.refl _|apply Drawn0.step)⟩
               ·rw [if_neg c15] at H
                have c15b0:((rd l0 x6_3)==(rd l0 x5_1))=false:=beq_eq_false_iff_ne.mpr c15
                have c15b1:((rd l0 x6_3) !=(rd l0 x5_1))=true:=bne_iff_ne.mpr c15
                have H':=yA H
                clear H
                have p259:0≤(x6_3:Int):=yD
                have q259:x6_3<(l0.length:Int):=yD
                obtain ⟨ad259,e259,hx259_0⟩:=Kd.at_int HR0.out x6_3 p259 q259
                cases e259
                replace p259:=eq_true p259
                replace q259:=eq_true q259
                have p260:0≤(x5_1:Int):=yD
                have q260:x5_1<(l0.length:Int):=yD
                obtain ⟨ad260,e260,hx260_0⟩:=Kd.at_int HR0.out x5_1 p260 q260
                obtain rfl:ad259=ad260:=(by injection e260)
                replace p260:=eq_true p260
                replace q260:=eq_true q260
                go_wp2
                repeat (go_quiet (fail); try go_wp2)
                go_roundg k3
                case measure=>have:=HK1.out; have:=HJ4.out; have:=HK3.out; omega
                case rel=>exact ⟨(wrap64 (x6_3+1)),zH,H',⟨by have:=HK1.out; have:=HJ4.out; have:=HK3.out; omega⟩,by repeat (first|exact Drawn0.refl _|apply Drawn0.step)⟩
              ·rw [if_neg c14] at H
               exact absurd H zA5
             ·rw [if_neg c13] at H
              exact absurd H zA5
            ·rw [if_neg c12] at H
             exact absurd H zA5
           ·rw [if_neg c11] at H
            exact absurd H zA5
          ·rw [if_neg c10] at H
           have c10b0:decide (x6_3<x5_1)=false:=decide_eq_false c10
           clear c10
           have H':=yA H
           clear H
           go_wp2
           repeat (go_quiet (fail); try go_wp2)
           go_roundg k3
           case measure=>have:=HK1.out; have:=HJ4.out; have:=HK3.out; omega
           case rel=>exact ⟨(wrap64 (x5_1+1)),zH,H',⟨by have:=HK1.out; have:=HJ4.out; have:=HK3.out; omega⟩,by repeat (first|exact Drawn0.refl _|apply Drawn0.step)⟩
    ·rw [if_neg c4] at H
     have c4b0:decide (x5_1<a1)=false:=decide_eq_false c4
     clear c4
     obtain rfl:=Option.some.inj H
     go_wp2
     repeat (go_quiet (fail); try go_wp2)
     go_ret
     exact ⟨by first|rfl|(simp; done)|(simp [*]; done),by repeat (first|exact Drawn0.refl _|apply Drawn0.step)⟩
 ·rw [if_neg c3] at H
  have c3b0:((l0.length:Int)==a1)=false:=beq_eq_false_iff_ne.mpr c3
  have c3b1:((l0.length:Int) !=a1)=true:=bne_iff_ne.mpr c3
  obtain rfl:=Option.some.inj H
  go_enter Try.func39,Try.ntmps39
  go_wp2
  repeat (go_quiet (fail); try go_wp2)
  go_ret
  exact ⟨by first|rfl|(simp; done)|(simp [*]; done),by repeat (first|exact Drawn0.refl _|apply Drawn0.step)⟩
end Go.Proofs.Ytdadecjefafflaa.PLst
end
