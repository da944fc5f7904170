/- A part of what the law's proof leans on. PACKED BY pack.py of this repo. -/
import Derived.Test.YtgfjidlckocflaaDoorS0
set_option linter.unusedVariables false
set_option linter.unusedSimpArgs false
set_option linter.defProp false
set_option linter.unusedSectionVars false
section
namespace Go.Proofs.YtgfjidlckocflaaDoor.PAll
set_option maxRecDepth 100000
open Go.RowKit Go.Proofs.YtgfjidlckocflaaDoorW.PrintWords Go.Proofs.YtgfjidlckocflaaDoorW.PrintLast Go.Proofs.YtgfjidlckocflaaDoorW.PrintMore
attribute [local go_sem] BM BK BV BU BD BC BL BJ
def B9 (n:Int):ByteArray:=⟨(Go.Lib.itoa n).toArray⟩
def As.f (a0:Int):Option (ByteArray):=if -9223372036854775808≤a0∧a0≤9223372036854775807 then some (B9 a0) else none
def Tab (w:World):Prop:=Go.Lib.TabIs Tryd.prog w "internal/strconv.uint64pow10" .u64 Go.Lib.pow10Tab
theorem Tab.below {w W:World} (h:Tab w) (hb:Below w.heap.size w W):Tab W:=by
 unfold Tab Go.Lib.TabIs World.var? at h ⊢
 obtain ⟨g,hg,h2⟩:=Option.bind_eq_some_iff.mp h
 rw [hg]
 have hlt:g<w.heap.size:=by
  rcases Nat.lt_or_ge g w.heap.size with h'|h'
  ·exact h'
  ·rw [Array.getElem?_eq_none h'] at h2; cases h2
 show (match W.heap[g]? with|some (.cells cs _ _)=>some cs|_=>none)=_
 rw [hb.block g hlt]
 exact h2
theorem As.calls (a0:Int) (r:ByteArray) (w:World) (h:As.f a0=some r) (ht:Tab w):
  Calls Tryd.prog 46 #[.int .i64 a0] w fun e w'=>e= .returned (.string r)∧Below w.heap.size w w':=by
 unfold As.f at h
 by_cases hc: -9223372036854775808≤a0∧a0≤9223372036854775807
 ·rw [if_pos hc] at h
  cases h
  refine (Tryd.itoa a0 (by omega) (by omega) w ht).mono ?_
  rintro e w' ⟨rfl,k,os,rfl⟩
  exact ⟨rfl,Go.Lib.below_grow _ w (Nat.le_refl _) k os⟩
 ·rw [if_neg hc] at h; cases h
theorem C2:(⟨#[32]⟩:ByteArray).size=1:=rfl
theorem Bc:(⟨#[43]⟩:ByteArray).size=1:=rfl
def Aa.j0:Nat→ByteArray→Int→Int→Int→Option (ByteArray×Int)
 |0,_,_,_,_=>none
 |k+1,x9,x135000,x135001,x135002=>(B6.f k x135000 x135001 x135002).bind fun bt141=>(if bt141.2.2=0 then (if x135001>0 then (if x9.size+1≤9223372036854775807 then ((As.f bt141.1).bind fun t144=>(if (x9++(⟨#[32]⟩:ByteArray)).size+t144.size≤9223372036854775807 then (if ((x9++(⟨#[32]⟩:ByteArray))++t144).size+3≤9223372036854775807 then (some (((x9++(⟨#[32]⟩:ByteArray))++t144)++(⟨#[32,117,112]⟩:ByteArray),0)) else (none)) else (none))) else (none)) else (if x9.size+1≤9223372036854775807 then ((As.f bt141.1).bind fun t145=>(if (x9++(⟨#[32]⟩:ByteArray)).size+t145.size≤9223372036854775807 then (if ((x9++(⟨#[32]⟩:ByteArray))++t145).size+5≤9223372036854775807 then (some (((x9++(⟨#[32]⟩:ByteArray))++t145)++(⟨#[32,100,111,119,110]⟩:ByteArray),0)) else (none)) else (none))) else (none))) else (if x9.size+7≤9223372036854775807 then (some (x9++(⟨#[32,103,105,114,100,108,101]⟩:ByteArray),0)) else (none)))
def Aa.f (k:Nat) (AB:Int) (AA:Int) (AC:Int) (a1:Int):Option (ByteArray×Int):=(Al.f k AB AA AC).bind fun t135=>(if t135=true then ((Ad.f AC a1).bind fun bt136=>(if bt136.2.2=0 then ((As.f bt136.1).bind fun t139=>(if bt136.2.1=0 then (Aa.j0 k t139 AB AA AC) else ((As.f bt136.2.1).bind fun t140=>(if 1+t140.size≤9223372036854775807 then (if t139.size+((⟨#[43]⟩:ByteArray)++t140).size≤9223372036854775807 then (Aa.j0 k (t139++((⟨#[43]⟩:ByteArray)++t140)) AB AA AC) else (none)) else (none))))) else (some ((⟨#[]⟩:ByteArray),bt136.2.2)))) else (some ((⟨#[]⟩:ByteArray),1)))
set_option maxHeartbeats 8000000 in
theorem Aa.calls (k:Nat) (AB:Int) (AA:Int) (AC:Int) (a1:Int) (r1:ByteArray) (r2:Int) (w:World) (h:Aa.f k AB AA AC a1=some (r1,r2)) (ht:Tab w):
  Calls Tryd.prog 32 #[.agg #[.int .i64 AB,.int .i64 AA,.int .i64 AC],.int .i64 a1] w fun e w'=>e= .returned (.tuple #[.string r1,.int .i64 r2])∧Below w.heap.size w w':=by
 have HTB:=Aside0.mk ht
 clear ht
 have hu33:=Tryd.underlying33
 have HB:=Aside0.mk (Below.refl w.heap.size w)
 have H:((Al.f k AB AA AC).bind fun t135=>(if t135=true then ((Ad.f AC a1).bind fun bt136=>(if bt136.2.2=0 then ((As.f bt136.1).bind fun t139=>(if bt136.2.1=0 then (Aa.j0 k t139 AB AA AC) else ((As.f bt136.2.1).bind fun t140=>(if 1+t140.size≤9223372036854775807 then (if t139.size+((⟨#[43]⟩:ByteArray)++t140).size≤9223372036854775807 then (Aa.j0 k (t139++((⟨#[43]⟩:ByteArray)++t140)) AB AA AC) else (none)) else (none))))) else (some ((⟨#[]⟩:ByteArray),bt136.2.2)))) else (some ((⟨#[]⟩:ByteArray),1))))=some (r1,r2):=h
 clear h
 replace H:=Option.bind_eq_some_iff.mp H
 obtain ⟨t135,A30,H⟩:=H
 replace H:(if t135=true then ((Ad.f AC a1).bind fun bt136=>(if bt136.2.2=0 then ((As.f bt136.1).bind fun t139=>(if bt136.2.1=0 then (Aa.j0 k t139 AB AA AC) else ((As.f bt136.2.1).bind fun t140=>(if 1+t140.size≤9223372036854775807 then (if t139.size+((⟨#[43]⟩:ByteArray)++t140).size≤9223372036854775807 then (Aa.j0 k (t139++((⟨#[43]⟩:ByteArray)++t140)) AB AA AC) else (none)) else (none))))) else (some ((⟨#[]⟩:ByteArray),bt136.2.2)))) else (some ((⟨#[]⟩:ByteArray),1)))=some (r1,r2):=H
 have A3:=Aside0.mk A30
 clear A30
 by_cases c4:t135=true
 ·subst c4
  have H1:((Ad.f AC a1).bind fun bt136=>(if bt136.2.2=0 then ((As.f bt136.1).bind fun t139=>(if bt136.2.1=0 then (Aa.j0 k t139 AB AA AC) else ((As.f bt136.2.1).bind fun t140=>(if 1+t140.size≤9223372036854775807 then (if t139.size+((⟨#[43]⟩:ByteArray)++t140).size≤9223372036854775807 then (Aa.j0 k (t139++((⟨#[43]⟩:ByteArray)++t140)) AB AA AC) else (none)) else (none))))) else (some ((⟨#[]⟩:ByteArray),bt136.2.2))))=some (r1,r2):=by rw [if_pos rfl] at H; exact H
  clear H
  have H:=H1
  clear H1
  replace H:=Option.bind_eq_some_iff.mp H
  obtain ⟨⟨t136,t137,t138⟩,A50,H⟩:=H
  replace H:(if t138=0 then ((As.f t136).bind fun t139=>(if t137=0 then (Aa.j0 k t139 AB AA AC) else ((As.f t137).bind fun t140=>(if 1+t140.size≤9223372036854775807 then (if t139.size+((⟨#[43]⟩:ByteArray)++t140).size≤9223372036854775807 then (Aa.j0 k (t139++((⟨#[43]⟩:ByteArray)++t140)) AB AA AC) else (none)) else (none))))) else (some ((⟨#[]⟩:ByteArray),t138)))=some (r1,r2):=H
  have A5:=Aside0.mk A50
  clear A50
  by_cases c6:t138=0
  ·rw [if_pos c6] at H
   have c6b0:(t138==0)=true:=beq_iff_eq.mpr c6
   have c6b1:(t138 !=0)=false:=bne_eq_false_iff_eq.mpr c6
   clear c6
   replace H:=Option.bind_eq_some_iff.mp H
   obtain ⟨t139,A70,H⟩:=H
   replace H:(if t137=0 then (Aa.j0 k t139 AB AA AC) else ((As.f t137).bind fun t140=>(if 1+t140.size≤9223372036854775807 then (if t139.size+((⟨#[43]⟩:ByteArray)++t140).size≤9223372036854775807 then (Aa.j0 k (t139++((⟨#[43]⟩:ByteArray)++t140)) AB AA AC) else (none)) else (none))))=some (r1,r2):=H
   have A7:=Aside0.mk A70
   clear A70
   have HC8:=Aside0.mk H
   clear H
   go_enter Tryd.func32,Tryd.ntmps32
   go_upto_if 29 with (first|((with_reducible refine Ar (N:=2) rfl ?_); refine Am ?hg (N:=2) ?hd (cs:= #[.int .i64 AB,.int .i64 AA,.int .i64 AC]) (t:=33) ?hr ?_; (case hd=>rfl); (case hg=>rfl); (case hr=>first|(go_simp; done)|(go_simp; rfl)); intro gb134 hg w9 hbox hb; have n0_:=Aside0.mk (AP (by repeat (first|(with_reducible first|exact HB.out|apply AI|apply AG|apply AH)|exact HB.out)) hb); have n1_:=Aside0.mk (hbox); have n2_:=Aside0.mk ((by rw [hg]; exact (AT (by repeat (first|(with_reducible first|exact HB.out|apply AI|apply AG|apply AH)|exact HB.out))):w.heap.size≤gb134)); have n3_:=Aside0.mk ((by rw [hg]; exact (AT (by repeat (first|(with_reducible first|exact HB.out|apply AI|apply AG|apply AH)|exact HB.out))):w.heap.size≤gb134)); clear HB; have HB:=n0_; have BK134:=n1_; have GW134:=n2_; have GE134:=n3_; clear n0_ n1_ n2_ n3_; clear hb hbox hg; have hcz10_0:w9.cell? ⟨gb134,0,none⟩=some (.int .i64 AB):=(AJ BK134.out 0).trans rfl; have hcz10_1:w9.cell? ⟨gb134,1,none⟩=some (.int .i64 AA):=(AJ BK134.out 1).trans rfl; have hcz10_2:w9.cell? ⟨gb134,2,none⟩=some (.int .i64 AC):=(AJ BK134.out 2).trans rfl; have hfz10_0:=AN BK134.out 0; have hfz10_1:=AN BK134.out 1; have hfz10_2:=AN BK134.out 2)|((with_reducible refine AQ (f:=20) rfl ?_); refine Ag (some 13) rfl rfl Tryd.func20 (by kernel_rfl) rfl #[.agg #[.int .i64 AB,.int .i64 AA,.int .i64 AC]] rfl (by (try simp only [List.map_toArray,List.map_cons,List.map_nil]); first|done|rfl|(simp only [List.length_drop,List.length_take]; rfl)) ?_; (with_reducible refine (Al.calls k AB AA AC true _ A3.out).mono ?_); rintro e w11 ⟨rfl,hb⟩; refine ⟨_,rfl,?_⟩; have n0_:=Aside0.mk (Ai (g:=gb134) (o:= .cells #[.int .i64 AB,.int .i64 AA,.int .i64 AC] 33 (0,0)) (by (with_reducible repeat (first|refine Ab ?_ _|refine AZ ?_|refine Ac ?_ _)); exact BK134.out) hb); have n1_:=Aside0.mk (AP (by repeat (first|(with_reducible first|exact HB.out|apply AI|apply AG|apply AH|refine AV ?_ GE134.out)|exact HB.out)) hb); clear BK134; clear HB; have BK134:=n0_; have HB:=n1_; clear n0_ n1_; (try clear hb); (try clear hb2); (try clear hk); (try clear hi); have hcz12_0:w11.cell? ⟨gb134,0,none⟩=some (.int .i64 AB):=(AJ BK134.out 0).trans rfl; have hcz12_1:w11.cell? ⟨gb134,1,none⟩=some (.int .i64 AA):=(AJ BK134.out 1).trans rfl; have hcz12_2:w11.cell? ⟨gb134,2,none⟩=some (.int .i64 AC):=(AJ BK134.out 2).trans rfl; have hfz12_0:=AN BK134.out 0; have hfz12_1:=AN BK134.out 1; have hfz12_2:=AN BK134.out 2)|((with_reducible refine AQ (f:=11) rfl ?_); refine Ag (some 19) rfl rfl Tryd.func11 (by kernel_rfl) rfl #[.int .i64 AC,.int .i64 a1] rfl (by (try simp only [List.map_toArray,List.map_cons,List.map_nil]); first|done|rfl|(simp only [List.length_drop,List.length_take]; rfl)) ?_; (with_reducible refine (Ad.calls AC a1 t136 t137 t138 _ A5.out).mono ?_); rintro e w' ⟨rfl,⟨nd,rfl⟩⟩; refine ⟨_,rfl,?_⟩)|((with_reducible refine AQ (f:=46) rfl ?_); refine Ag (some 27) rfl rfl Tryd.func46 (by kernel_rfl) rfl #[.int .i64 t136] rfl (by (try simp only [List.map_toArray,List.map_cons,List.map_nil]); first|done|rfl|(simp only [List.length_drop,List.length_take]; rfl)) ?_; (with_reducible refine (As.calls t136 t139 _ A7.out (Tab.below HTB.out (by repeat (first|(with_reducible first|exact HB.out|apply AI|apply AG|apply AH|refine AV ?_ GE134.out)|exact HB.out)))).mono ?_); rintro e w13 ⟨rfl,hb⟩; refine ⟨_,rfl,?_⟩; have n0_:=Aside0.mk (Ai (g:=gb134) (o:= .cells #[.int .i64 AB,.int .i64 AA,.int .i64 AC] 33 (0,0)) (by (with_reducible repeat (first|refine Ab ?_ _|refine AZ ?_|refine Ac ?_ _)); exact BK134.out) hb); have n1_:=Aside0.mk (AP (by repeat (first|(with_reducible first|exact HB.out|apply AI|apply AG|apply AH|refine AV ?_ GE134.out)|exact HB.out)) hb); clear BK134; clear HB; have BK134:=n0_; have HB:=n1_; clear n0_ n1_; (try clear hb); (try clear hb2); (try clear hk); (try clear hi)))
   (try simp only [Act.put,List.setIfInBounds_toArray,List.set_cons_zero,List.set_cons_succ])
   go_cut [9] (fun v9 wc=>∃(kq:Nat) (x9_7:ByteArray),v9= .string x9_7∧Aside0 (Aa.j0 kq x9_7 AB AA AC=some (r1,r2))∧Aside0 (kq≤k)∧Aside0 (wc.heap[gb134]? =some (.cells #[.int .i64 AB,.int .i64 AA,.int .i64 AC] 33 (0,0)))∧Aside0 (Below w.heap.size w wc))
   case first=>
    have H:=HC8.out
    clear HC8
    by_cases c14:t137=0
    ·rw [if_pos c14] at H
     have c14b0:(t137==0)=true:=beq_iff_eq.mpr c14
     have c14b1:(t137 !=0)=false:=bne_eq_false_iff_eq.mpr c14
     clear c14
     (first|rw [c14b0]|(simp only [AL,AM]; rw [c14b0])|skip)
     have H':=Aside0.mk H
     clear H
     go_wp2
     go_meet
     case rel=>exact ⟨_,(t139),(by first|rfl|(simp; done)|(simp [*]; done)),H',⟨by first|omega|exact Nat.le_refl _⟩,⟨by (with_reducible repeat (first|refine Ab ?_ _|refine AZ ?_|refine Ac ?_ _)); exact BK134.out⟩,⟨by repeat (first|(with_reducible first|exact HB.out|apply AI|apply AG|apply AH|refine AV ?_ GE134.out)|exact HB.out)⟩⟩
    ·rw [if_neg c14] at H
     have c14b0:(t137==0)=false:=beq_eq_false_iff_ne.mpr c14
     have c14b1:(t137 !=0)=true:=bne_iff_ne.mpr c14
     (first|rw [c14b0]|(simp only [AL,AM]; rw [c14b0])|skip)
     replace H:=Option.bind_eq_some_iff.mp H
     obtain ⟨t140,A150,H⟩:=H
     replace H:(if 1+t140.size≤9223372036854775807 then (if t139.size+((⟨#[43]⟩:ByteArray)++t140).size≤9223372036854775807 then (Aa.j0 k (t139++((⟨#[43]⟩:ByteArray)++t140)) AB AA AC) else (none)) else (none))=some (r1,r2):=H
     have A15:=Aside0.mk A150
     clear A150
     by_cases c16:1+t140.size≤9223372036854775807
     ·rw [if_pos c16] at H
      have c16b0:=eq_true c16
      have c16b1:decide (1+t140.size≤9223372036854775807)=true:=decide_eq_true c16
      try have c16b2:(9223372036854775807<1+t140.size)=False:=eq_false (Nat.not_lt.2 c16)
      by_cases c17:t139.size+((⟨#[43]⟩:ByteArray)++t140).size≤9223372036854775807
      ·rw [if_pos c17] at H
       have c17b0:=eq_true c17
       have c17b1:decide (t139.size+((⟨#[43]⟩:ByteArray)++t140).size≤9223372036854775807)=true:=decide_eq_true c17
       try have c17b2:(9223372036854775807<t139.size+((⟨#[43]⟩:ByteArray)++t140).size)=False:=eq_false (Nat.not_lt.2 c17)
       (try have c17b3:=c17b2)
       (try simp only [ByteArray.size_append,C2,Bc] at c17b3)
       have H':=Aside0.mk H
       clear H
       go_wp2_with (first|((with_reducible refine AQ (f:=46) rfl ?_); refine Ag (some 32) rfl rfl Tryd.func46 (by kernel_rfl) rfl #[.int .i64 t137] rfl (by (try simp only [List.map_toArray,List.map_cons,List.map_nil]); first|done|rfl|(simp only [List.length_drop,List.length_take]; rfl)) ?_; (with_reducible refine (As.calls t137 t140 _ A15.out (Tab.below HTB.out (by repeat (first|(with_reducible first|exact HB.out|apply AI|apply AG|apply AH|refine AV ?_ GE134.out)|exact HB.out)))).mono ?_); rintro e w18 ⟨rfl,hb⟩; refine ⟨_,rfl,?_⟩; have n0_:=Aside0.mk (Ai (g:=gb134) (o:= .cells #[.int .i64 AB,.int .i64 AA,.int .i64 AC] 33 (0,0)) (by (with_reducible repeat (first|refine Ab ?_ _|refine AZ ?_|refine Ac ?_ _)); exact BK134.out) hb); have n1_:=Aside0.mk (AP (by repeat (first|(with_reducible first|exact HB.out|apply AI|apply AG|apply AH|refine AV ?_ GE134.out)|exact HB.out)) hb); clear BK134; clear HB; have BK134:=n0_; have HB:=n1_; clear n0_ n1_; (try clear hb); (try clear hb2); (try clear hk); (try clear hi)))
       go_meet
       case rel=>exact ⟨_,(t139++((⟨#[43]⟩:ByteArray)++t140)),(by first|rfl|(simp; done)|(simp [*]; done)),H',⟨by first|omega|exact Nat.le_refl _⟩,⟨by (with_reducible repeat (first|refine Ab ?_ _|refine AZ ?_|refine Ac ?_ _)); exact BK134.out⟩,⟨by repeat (first|(with_reducible first|exact HB.out|apply AI|apply AG|apply AH|refine AV ?_ GE134.out)|exact HB.out)⟩⟩
      ·rw [if_neg c17] at H
       exact absurd H (by simp)
     ·rw [if_neg c16] at H
      exact absurd H (by simp)
   case rest =>
    clear HC8
    try clear c1
    try clear c2
    try clear p2
    try clear c3
    try clear c4
    try clear c6
    try clear c6b0
    try clear c6b1
    try clear c11
    try clear c14
    try clear c14b0
    try clear c14b1
    try clear c16
    try clear c16b0
    try clear c16b1
    try clear c16b2
    try clear c17
    try clear c17b0
    try clear c17b1
    try clear c17b2
    try clear hcz10_0
    try clear hcz10_1
    try clear hcz10_2
    try clear hcz12_0
    try clear hcz12_1
    try clear hcz12_2
    try clear hfz10_0
    try clear hfz10_1
    try clear hfz10_2
    try clear hfz12_0
    try clear hfz12_1
    try clear hfz12_2
    obtain ⟨kq,x9_7,rfl,HA,HJ7,BK134,HB⟩:=hcut
    cases kq with
    |zero=>exact absurd HA.out (by simp [Aa.j0])
    | succ kj7=>
     have H:=HA.out
     clear HA
     simp only [Aa.j0] at H
     replace H:=Option.bind_eq_some_iff.mp H
     obtain ⟨⟨t141,t142,t143⟩,A190,H⟩:=H
     replace H:(if t143=0 then (if AA>0 then (if x9_7.size+1≤9223372036854775807 then ((As.f t141).bind fun t144=>(if (x9_7++(⟨#[32]⟩:ByteArray)).size+t144.size≤9223372036854775807 then (if ((x9_7++(⟨#[32]⟩:ByteArray))++t144).size+3≤9223372036854775807 then (some (((x9_7++(⟨#[32]⟩:ByteArray))++t144)++(⟨#[32,117,112]⟩:ByteArray),0)) else (none)) else (none))) else (none)) else (if x9_7.size+1≤9223372036854775807 then ((As.f t141).bind fun t145=>(if (x9_7++(⟨#[32]⟩:ByteArray)).size+t145.size≤9223372036854775807 then (if ((x9_7++(⟨#[32]⟩:ByteArray))++t145).size+5≤9223372036854775807 then (some (((x9_7++(⟨#[32]⟩:ByteArray))++t145)++(⟨#[32,100,111,119,110]⟩:ByteArray),0)) else (none)) else (none))) else (none))) else (if x9_7.size+7≤9223372036854775807 then (some (x9_7++(⟨#[32,103,105,114,100,108,101]⟩:ByteArray),0)) else (none)))=some (r1,r2):=H
     have A19:=Aside0.mk A190
     clear A190
     by_cases c20:t143=0
     ·rw [if_pos c20] at H
      have c20b0:(t143==0)=true:=beq_iff_eq.mpr c20
      have c20b1:(t143 !=0)=false:=bne_eq_false_iff_eq.mpr c20
      clear c20
      by_cases c21:AA>0
      ·rw [if_pos c21] at H
       have c21b0:decide (0<AA)=true:=decide_eq_true c21
       clear c21
       by_cases c22:x9_7.size+1≤9223372036854775807
       ·rw [if_pos c22] at H
        have c22b0:=eq_true c22
        have c22b1:decide (x9_7.size+1≤9223372036854775807)=true:=decide_eq_true c22
        try have c22b2:(9223372036854775807<x9_7.size+1)=False:=eq_false (Nat.not_lt.2 c22)
        replace H:=Option.bind_eq_some_iff.mp H
        obtain ⟨t144,A230,H⟩:=H
        replace H:(if (x9_7++(⟨#[32]⟩:ByteArray)).size+t144.size≤9223372036854775807 then (if ((x9_7++(⟨#[32]⟩:ByteArray))++t144).size+3≤9223372036854775807 then (some (((x9_7++(⟨#[32]⟩:ByteArray))++t144)++(⟨#[32,117,112]⟩:ByteArray),0)) else (none)) else (none))=some (r1,r2):=H
        have A23:=Aside0.mk A230
        clear A230
        by_cases c24:(x9_7++(⟨#[32]⟩:ByteArray)).size+t144.size≤9223372036854775807
        ·rw [if_pos c24] at H
         have c24b0:=eq_true c24
         have c24b1:decide ((x9_7++(⟨#[32]⟩:ByteArray)).size+t144.size≤9223372036854775807)=true:=decide_eq_true c24
         try have c24b2:(9223372036854775807<(x9_7++(⟨#[32]⟩:ByteArray)).size+t144.size)=False:=eq_false (Nat.not_lt.2 c24)
         (try have c24b3:=c24b2)
         (try simp only [ByteArray.size_append,C2,Bc] at c24b3)
         by_cases c25:((x9_7++(⟨#[32]⟩:ByteArray))++t144).size+3≤9223372036854775807
         ·rw [if_pos c25] at H
          have c25b0:=eq_true c25
          have c25b1:decide (((x9_7++(⟨#[32]⟩:ByteArray))++t144).size+3≤9223372036854775807)=true:=decide_eq_true c25
          try have c25b2:(9223372036854775807<((x9_7++(⟨#[32]⟩:ByteArray))++t144).size+3)=False:=eq_false (Nat.not_lt.2 c25)
          (try have c25b3:=c25b2)
          (try simp only [ByteArray.size_append,C2,Bc] at c25b3)
          simp only [Option.some.injEq,Prod.mk.injEq] at H
          obtain ⟨rfl,rfl⟩:=H
          have hcz26_0:wc.cell? ⟨gb134,0,none⟩=some (.int .i64 AB):=(AJ BK134.out 0).trans rfl
          have hcz26_1:wc.cell? ⟨gb134,1,none⟩=some (.int .i64 AA):=(AJ BK134.out 1).trans rfl
          have hcz26_2:wc.cell? ⟨gb134,2,none⟩=some (.int .i64 AC):=(AJ BK134.out 2).trans rfl
          have hfz26_0:=AN BK134.out 0
          have hfz26_1:=AN BK134.out 1
          have hfz26_2:=AN BK134.out 2
          go_wp2_with (first|((with_reducible refine AQ (f:=18) rfl ?_); refine Ag (some 37) rfl rfl Tryd.func18 (by kernel_rfl) rfl #[.agg #[.int .i64 AB,.int .i64 AA,.int .i64 AC]] rfl (by (try simp only [List.map_toArray,List.map_cons,List.map_nil]); first|done|rfl|(simp only [List.length_drop,List.length_take]; rfl)) ?_; (with_reducible refine (B6.calls kj7 AB AA AC t141 t142 t143 _ A19.out).mono ?_); rintro e w27 ⟨rfl,hb⟩; refine ⟨_,rfl,?_⟩; have n0_:=Aside0.mk (Ai (g:=gb134) (o:= .cells #[.int .i64 AB,.int .i64 AA,.int .i64 AC] 33 (0,0)) (by (with_reducible repeat (first|refine Ab ?_ _|refine AZ ?_|refine Ac ?_ _)); exact BK134.out) hb); have n1_:=Aside0.mk (AP (by repeat (first|(with_reducible first|exact HB.out|apply AI|apply AG|apply AH|refine AV ?_ GE134.out)|exact HB.out)) hb); clear BK134; clear HB; have BK134:=n0_; have HB:=n1_; clear n0_ n1_; (try clear hb); (try clear hb2); (try clear hk); (try clear hi); have hcz28_0:w27.cell? ⟨gb134,0,none⟩=some (.int .i64 AB):=(AJ BK134.out 0).trans rfl; have hcz28_1:w27.cell? ⟨gb134,1,none⟩=some (.int .i64 AA):=(AJ BK134.out 1).trans rfl; have hcz28_2:w27.cell? ⟨gb134,2,none⟩=some (.int .i64 AC):=(AJ BK134.out 2).trans rfl; have hfz28_0:=AN BK134.out 0; have hfz28_1:=AN BK134.out 1; have hfz28_2:=AN BK134.out 2)|((with_reducible refine AQ (f:=46) rfl ?_); refine Ag (some 53) rfl rfl Tryd.func46 (by kernel_rfl) rfl #[.int .i64 t141] rfl (by (try simp only [List.map_toArray,List.map_cons,List.map_nil]); first|done|rfl|(simp only [List.length_drop,List.length_take]; rfl)) ?_; (with_reducible refine (As.calls t141 t144 _ A23.out (Tab.below HTB.out (by repeat (first|(with_reducible first|exact HB.out|apply AI|apply AG|apply AH|refine AV ?_ GE134.out)|exact HB.out)))).mono ?_); rintro e w29 ⟨rfl,hb⟩; refine ⟨_,rfl,?_⟩; have n0_:=Aside0.mk (Ai (g:=gb134) (o:= .cells #[.int .i64 AB,.int .i64 AA,.int .i64 AC] 33 (0,0)) (by (with_reducible repeat (first|refine Ab ?_ _|refine AZ ?_|refine Ac ?_ _)); exact BK134.out) hb); have n1_:=Aside0.mk (AP (by repeat (first|(with_reducible first|exact HB.out|apply AI|apply AG|apply AH|refine AV ?_ GE134.out)|exact HB.out)) hb); clear BK134; clear HB; have BK134:=n0_; have HB:=n1_; clear n0_ n1_; (try clear hb); (try clear hb2); (try clear hk); (try clear hi)))
          go_ret2
          exact ⟨by first|rfl|(simp [AS,AR]<;>rfl)|(simp [*,AS,AR]<;>rfl),by repeat (first|(with_reducible first|exact HB.out|apply AI|apply AG|apply AH|refine AV ?_ GE134.out)|exact HB.out)⟩
         ·rw [if_neg c25] at H
          exact absurd H (by simp)
        ·rw [if_neg c24] at H
         exact absurd H (by simp)
       ·rw [if_neg c22] at H
        exact absurd H (by simp)
      ·rw [if_neg c21] at H
       have c21b0:decide (0<AA)=false:=decide_eq_false c21
       clear c21
       by_cases c30:x9_7.size+1≤9223372036854775807
       ·rw [if_pos c30] at H
        have c30b0:=eq_true c30
        have c30b1:decide (x9_7.size+1≤9223372036854775807)=true:=decide_eq_true c30
        try have c30b2:(9223372036854775807<x9_7.size+1)=False:=eq_false (Nat.not_lt.2 c30)
        replace H:=Option.bind_eq_some_iff.mp H
        obtain ⟨t145,A310,H⟩:=H
        replace H:(if (x9_7++(⟨#[32]⟩:ByteArray)).size+t145.size≤9223372036854775807 then (if ((x9_7++(⟨#[32]⟩:ByteArray))++t145).size+5≤9223372036854775807 then (some (((x9_7++(⟨#[32]⟩:ByteArray))++t145)++(⟨#[32,100,111,119,110]⟩:ByteArray),0)) else (none)) else (none))=some (r1,r2):=H
        have A31:=Aside0.mk A310
        clear A310
        by_cases c32:(x9_7++(⟨#[32]⟩:ByteArray)).size+t145.size≤9223372036854775807
        ·rw [if_pos c32] at H
         have c32b0:=eq_true c32
         have c32b1:decide ((x9_7++(⟨#[32]⟩:ByteArray)).size+t145.size≤9223372036854775807)=true:=decide_eq_true c32
         try have c32b2:(9223372036854775807<(x9_7++(⟨#[32]⟩:ByteArray)).size+t145.size)=False:=eq_false (Nat.not_lt.2 c32)
         (try have c32b3:=c32b2)
         (try simp only [ByteArray.size_append,C2,Bc] at c32b3)
         by_cases c33:((x9_7++(⟨#[32]⟩:ByteArray))++t145).size+5≤9223372036854775807
         ·rw [if_pos c33] at H
          have c33b0:=eq_true c33
          have c33b1:decide (((x9_7++(⟨#[32]⟩:ByteArray))++t145).size+5≤9223372036854775807)=true:=decide_eq_true c33
          try have c33b2:(9223372036854775807<((x9_7++(⟨#[32]⟩:ByteArray))++t145).size+5)=False:=eq_false (Nat.not_lt.2 c33)
          (try have c33b3:=c33b2)
          (try simp only [ByteArray.size_append,C2,Bc] at c33b3)
          simp only [Option.some.injEq,Prod.mk.injEq] at H
          obtain ⟨rfl,rfl⟩:=H
          have hcz34_0:wc.cell? ⟨gb134,0,none⟩=some (.int .i64 AB):=(AJ BK134.out 0).trans rfl
          have hcz34_1:wc.cell? ⟨gb134,1,none⟩=some (.int .i64 AA):=(AJ BK134.out 1).trans rfl
          have hcz34_2:wc.cell? ⟨gb134,2,none⟩=some (.int .i64 AC):=(AJ BK134.out 2).trans rfl
          have hfz34_0:=AN BK134.out 0
          have hfz34_1:=AN BK134.out 1
          have hfz34_2:=AN BK134.out 2
          go_wp2_with (first|((with_reducible refine AQ (f:=18) rfl ?_); refine Ag (some 37) rfl rfl Tryd.func18 (by kernel_rfl) rfl #[.agg #[.int .i64 AB,.int .i64 AA,.int .i64 AC]] rfl (by (try simp only [List.map_toArray,List.map_cons,List.map_nil]); first|done|rfl|(simp only [List.length_drop,List.length_take]; rfl)) ?_; (with_reducible refine (B6.calls kj7 AB AA AC t141 t142 t143 _ A19.out).mono ?_); rintro e w35 ⟨rfl,hb⟩; refine ⟨_,rfl,?_⟩; have n0_:=Aside0.mk (Ai (g:=gb134) (o:= .cells #[.int .i64 AB,.int .i64 AA,.int .i64 AC] 33 (0,0)) (by (with_reducible repeat (first|refine Ab ?_ _|refine AZ ?_|refine Ac ?_ _)); exact BK134.out) hb); have n1_:=Aside0.mk (AP (by repeat (first|(with_reducible first|exact HB.out|apply AI|apply AG|apply AH|refine AV ?_ GE134.out)|exact HB.out)) hb); clear BK134; clear HB; have BK134:=n0_; have HB:=n1_; clear n0_ n1_; (try clear hb); (try clear hb2); (try clear hk); (try clear hi); have hcz36_0:w35.cell? ⟨gb134,0,none⟩=some (.int .i64 AB):=(AJ BK134.out 0).trans rfl; have hcz36_1:w35.cell? ⟨gb134,1,none⟩=some (.int .i64 AA):=(AJ BK134.out 1).trans rfl; have hcz36_2:w35.cell? ⟨gb134,2,none⟩=some (.int .i64 AC):=(AJ BK134.out 2).trans rfl; have hfz36_0:=AN BK134.out 0; have hfz36_1:=AN BK134.out 1; have hfz36_2:=AN BK134.out 2)|((with_reducible refine AQ (f:=46) rfl ?_); refine Ag (some 59) rfl rfl Tryd.func46 (by kernel_rfl) rfl #[.int .i64 t141] rfl (by (try simp only [List.map_toArray,List.map_cons,List.map_nil]); first|done|rfl|(simp only [List.length_drop,List.length_take]; rfl)) ?_; (with_reducible refine (As.calls t141 t145 _ A31.out (Tab.below HTB.out (by repeat (first|(with_reducible first|exact HB.out|apply AI|apply AG|apply AH|refine AV ?_ GE134.out)|exact HB.out)))).mono ?_); rintro e w37 ⟨rfl,hb⟩; refine ⟨_,rfl,?_⟩; have n0_:=Aside0.mk (Ai (g:=gb134) (o:= .cells #[.int .i64 AB,.int .i64 AA,.int .i64 AC] 33 (0,0)) (by (with_reducible repeat (first|refine Ab ?_ _|refine AZ ?_|refine Ac ?_ _)); exact BK134.out) hb); have n1_:=Aside0.mk (AP (by repeat (first|(with_reducible first|exact HB.out|apply AI|apply AG|apply AH|refine AV ?_ GE134.out)|exact HB.out)) hb); clear BK134; clear HB; have BK134:=n0_; have HB:=n1_; clear n0_ n1_; (try clear hb); (try clear hb2); (try clear hk); (try clear hi)))
          go_ret2
          exact ⟨by first|rfl|(simp [AS,AR]<;>rfl)|(simp [*,AS,AR]<;>rfl),by repeat (first|(with_reducible first|exact HB.out|apply AI|apply AG|apply AH|refine AV ?_ GE134.out)|exact HB.out)⟩
         ·rw [if_neg c33] at H
          exact absurd H (by simp)
        ·rw [if_neg c32] at H
         exact absurd H (by simp)
       ·rw [if_neg c30] at H
        exact absurd H (by simp)
     ·rw [if_neg c20] at H
      have c20b0:(t143==0)=false:=beq_eq_false_iff_ne.mpr c20
      have c20b1:(t143 !=0)=true:=bne_iff_ne.mpr c20
      by_cases c38:x9_7.size+7≤9223372036854775807
      ·rw [if_pos c38] at H
       have c38b0:=eq_true c38
       have c38b1:decide (x9_7.size+7≤9223372036854775807)=true:=decide_eq_true c38
       try have c38b2:(9223372036854775807<x9_7.size+7)=False:=eq_false (Nat.not_lt.2 c38)
       simp only [Option.some.injEq,Prod.mk.injEq] at H
       obtain ⟨rfl,rfl⟩:=H
       have hcz39_0:wc.cell? ⟨gb134,0,none⟩=some (.int .i64 AB):=(AJ BK134.out 0).trans rfl
       have hcz39_1:wc.cell? ⟨gb134,1,none⟩=some (.int .i64 AA):=(AJ BK134.out 1).trans rfl
       have hcz39_2:wc.cell? ⟨gb134,2,none⟩=some (.int .i64 AC):=(AJ BK134.out 2).trans rfl
       have hfz39_0:=AN BK134.out 0
       have hfz39_1:=AN BK134.out 1
       have hfz39_2:=AN BK134.out 2
       go_wp2_with (first|((with_reducible refine AQ (f:=18) rfl ?_); refine Ag (some 37) rfl rfl Tryd.func18 (by kernel_rfl) rfl #[.agg #[.int .i64 AB,.int .i64 AA,.int .i64 AC]] rfl (by (try simp only [List.map_toArray,List.map_cons,List.map_nil]); first|done|rfl|(simp only [List.length_drop,List.length_take]; rfl)) ?_; (with_reducible refine (B6.calls kj7 AB AA AC t141 t142 t143 _ A19.out).mono ?_); rintro e w40 ⟨rfl,hb⟩; refine ⟨_,rfl,?_⟩; have n0_:=Aside0.mk (Ai (g:=gb134) (o:= .cells #[.int .i64 AB,.int .i64 AA,.int .i64 AC] 33 (0,0)) (by (with_reducible repeat (first|refine Ab ?_ _|refine AZ ?_|refine Ac ?_ _)); exact BK134.out) hb); have n1_:=Aside0.mk (AP (by repeat (first|(with_reducible first|exact HB.out|apply AI|apply AG|apply AH|refine AV ?_ GE134.out)|exact HB.out)) hb); clear BK134; clear HB; have BK134:=n0_; have HB:=n1_; clear n0_ n1_; (try clear hb); (try clear hb2); (try clear hk); (try clear hi)))
       go_ret2
       exact ⟨by first|rfl|(simp [AS,AR]<;>rfl)|(simp [*,AS,AR]<;>rfl),by repeat (first|(with_reducible first|exact HB.out|apply AI|apply AG|apply AH|refine AV ?_ GE134.out)|exact HB.out)⟩
      ·rw [if_neg c38] at H
       exact absurd H (by simp)
  ·rw [if_neg c6] at H
   have c6b0:(t138==0)=false:=beq_eq_false_iff_ne.mpr c6
   have c6b1:(t138 !=0)=true:=bne_iff_ne.mpr c6
   simp only [Option.some.injEq,Prod.mk.injEq] at H
   obtain ⟨rfl,rfl⟩:=H
   go_enter Tryd.func32,Tryd.ntmps32
   go_wp2_with (first|((with_reducible refine Ar (N:=2) rfl ?_); refine Am ?hg (N:=2) ?hd (cs:= #[.int .i64 AB,.int .i64 AA,.int .i64 AC]) (t:=33) ?hr ?_; (case hd=>rfl); (case hg=>rfl); (case hr=>first|(go_simp; done)|(go_simp; rfl)); intro gb134 hg w41 hbox hb; have n0_:=Aside0.mk (AP (by repeat (first|(with_reducible first|exact HB.out|apply AI|apply AG|apply AH)|exact HB.out)) hb); have n1_:=Aside0.mk (hbox); have n2_:=Aside0.mk ((by rw [hg]; exact (AT (by repeat (first|(with_reducible first|exact HB.out|apply AI|apply AG|apply AH)|exact HB.out))):w.heap.size≤gb134)); have n3_:=Aside0.mk ((by rw [hg]; exact (AT (by repeat (first|(with_reducible first|exact HB.out|apply AI|apply AG|apply AH)|exact HB.out))):w.heap.size≤gb134)); clear HB; have HB:=n0_; have BK134:=n1_; have GW134:=n2_; have GE134:=n3_; clear n0_ n1_ n2_ n3_; clear hb hbox hg; have hcz42_0:w41.cell? ⟨gb134,0,none⟩=some (.int .i64 AB):=(AJ BK134.out 0).trans rfl; have hcz42_1:w41.cell? ⟨gb134,1,none⟩=some (.int .i64 AA):=(AJ BK134.out 1).trans rfl; have hcz42_2:w41.cell? ⟨gb134,2,none⟩=some (.int .i64 AC):=(AJ BK134.out 2).trans rfl; have hfz42_0:=AN BK134.out 0; have hfz42_1:=AN BK134.out 1; have hfz42_2:=AN BK134.out 2)|((with_reducible refine AQ (f:=20) rfl ?_); refine Ag (some 13) rfl rfl Tryd.func20 (by kernel_rfl) rfl #[.agg #[.int .i64 AB,.int .i64 AA,.int .i64 AC]] rfl (by (try simp only [List.map_toArray,List.map_cons,List.map_nil]); first|done|rfl|(simp only [List.length_drop,List.length_take]; rfl)) ?_; (with_reducible refine (Al.calls k AB AA AC true _ A3.out).mono ?_); rintro e w43 ⟨rfl,hb⟩; refine ⟨_,rfl,?_⟩; have n0_:=Aside0.mk (Ai (g:=gb134) (o:= .cells #[.int .i64 AB,.int .i64 AA,.int .i64 AC] 33 (0,0)) (by (with_reducible repeat (first|refine Ab ?_ _|refine AZ ?_|refine Ac ?_ _)); exact BK134.out) hb); have n1_:=Aside0.mk (AP (by repeat (first|(with_reducible first|exact HB.out|apply AI|apply AG|apply AH|refine AV ?_ GE134.out)|exact HB.out)) hb); clear BK134; clear HB; have BK134:=n0_; have HB:=n1_; clear n0_ n1_; (try clear hb); (try clear hb2); (try clear hk); (try clear hi); have hcz44_0:w43.cell? ⟨gb134,0,none⟩=some (.int .i64 AB):=(AJ BK134.out 0).trans rfl; have hcz44_1:w43.cell? ⟨gb134,1,none⟩=some (.int .i64 AA):=(AJ BK134.out 1).trans rfl; have hcz44_2:w43.cell? ⟨gb134,2,none⟩=some (.int .i64 AC):=(AJ BK134.out 2).trans rfl; have hfz44_0:=AN BK134.out 0; have hfz44_1:=AN BK134.out 1; have hfz44_2:=AN BK134.out 2)|((with_reducible refine AQ (f:=11) rfl ?_); refine Ag (some 19) rfl rfl Tryd.func11 (by kernel_rfl) rfl #[.int .i64 AC,.int .i64 a1] rfl (by (try simp only [List.map_toArray,List.map_cons,List.map_nil]); first|done|rfl|(simp only [List.length_drop,List.length_take]; rfl)) ?_; (with_reducible refine (Ad.calls AC a1 t136 t137 t138 _ A5.out).mono ?_); rintro e w' ⟨rfl,⟨nd,rfl⟩⟩; refine ⟨_,rfl,?_⟩))
   go_ret2
   exact ⟨by first|rfl|(simp [AS,AR]<;>rfl)|(simp [*,AS,AR]<;>rfl),by repeat (first|(with_reducible first|exact HB.out|apply AI|apply AG|apply AH|refine AV ?_ GE134.out)|exact HB.out)⟩
 ·replace c4:=Bool.eq_false_iff.mpr c4
  subst c4
  have H1:(some ((⟨#[]⟩:ByteArray),1))=some (r1,r2):=by rw [if_neg (show ¬(false=true) by decide)] at H; exact H
  clear H
  have H:=H1
  clear H1
  simp only [Option.some.injEq,Prod.mk.injEq] at H
  obtain ⟨rfl,rfl⟩:=H
  go_enter Tryd.func32,Tryd.ntmps32
  go_wp2_with (first|((with_reducible refine Ar (N:=2) rfl ?_); refine Am ?hg (N:=2) ?hd (cs:= #[.int .i64 AB,.int .i64 AA,.int .i64 AC]) (t:=33) ?hr ?_; (case hd=>rfl); (case hg=>rfl); (case hr=>first|(go_simp; done)|(go_simp; rfl)); intro gb134 hg w45 hbox hb; have n0_:=Aside0.mk (AP (by repeat (first|(with_reducible first|exact HB.out|apply AI|apply AG|apply AH)|exact HB.out)) hb); have n1_:=Aside0.mk (hbox); have n2_:=Aside0.mk ((by rw [hg]; exact (AT (by repeat (first|(with_reducible first|exact HB.out|apply AI|apply AG|apply AH)|exact HB.out))):w.heap.size≤gb134)); have n3_:=Aside0.mk ((by rw [hg]; exact (AT (by repeat (first|(with_reducible first|exact HB.out|apply AI|apply AG|apply AH)|exact HB.out))):w.heap.size≤gb134)); clear HB; have HB:=n0_; have BK134:=n1_; have GW134:=n2_; have GE134:=n3_; clear n0_ n1_ n2_ n3_; clear hb hbox hg; have hcz46_0:w45.cell? ⟨gb134,0,none⟩=some (.int .i64 AB):=(AJ BK134.out 0).trans rfl; have hcz46_1:w45.cell? ⟨gb134,1,none⟩=some (.int .i64 AA):=(AJ BK134.out 1).trans rfl; have hcz46_2:w45.cell? ⟨gb134,2,none⟩=some (.int .i64 AC):=(AJ BK134.out 2).trans rfl; have hfz46_0:=AN BK134.out 0; have hfz46_1:=AN BK134.out 1; have hfz46_2:=AN BK134.out 2)|((with_reducible refine AQ (f:=20) rfl ?_); refine Ag (some 13) rfl rfl Tryd.func20 (by kernel_rfl) rfl #[.agg #[.int .i64 AB,.int .i64 AA,.int .i64 AC]] rfl (by (try simp only [List.map_toArray,List.map_cons,List.map_nil]); first|done|rfl|(simp only [List.length_drop,List.length_take]; rfl)) ?_; (with_reducible refine (Al.calls k AB AA AC false _ A3.out).mono ?_); rintro e w47 ⟨rfl,hb⟩; refine ⟨_,rfl,?_⟩; have n0_:=Aside0.mk (Ai (g:=gb134) (o:= .cells #[.int .i64 AB,.int .i64 AA,.int .i64 AC] 33 (0,0)) (by (with_reducible repeat (first|refine Ab ?_ _|refine AZ ?_|refine Ac ?_ _)); exact BK134.out) hb); have n1_:=Aside0.mk (AP (by repeat (first|(with_reducible first|exact HB.out|apply AI|apply AG|apply AH|refine AV ?_ GE134.out)|exact HB.out)) hb); clear BK134; clear HB; have BK134:=n0_; have HB:=n1_; clear n0_ n1_; (try clear hb); (try clear hb2); (try clear hk); (try clear hi)))
  go_ret2
  exact ⟨by first|rfl|(simp [AS,AR]<;>rfl)|(simp [*,AS,AR]<;>rfl),by repeat (first|(with_reducible first|exact HB.out|apply AI|apply AG|apply AH|refine AV ?_ GE134.out)|exact HB.out)⟩
def Ax.f (k:Nat):Option (Bool):=(Ad.f 1 96).bind fun bt146=>((Ad.f 1 80).bind fun bt149=>((Aa.f k 3 (-4) 1 96).bind fun bt152=>((AU.f k 96 0 96).bind fun bt154=>(if bt146.2.2=0 then (if bt149.2.2=0 then (if bt152.2=0 then (if bt154.2=0 then (if bt146.1=4 then (if bt146.2.1=0 then (if bt149.1=3 then (if bt149.2.1=8 then (if bt152.1.toList=([52,32,55,53,48,32,100,111,119,110]:List UInt8) then (if bt154.1=0 then ((B0.f 96).bind fun t156=>(if t156=true then ((Al.f k 3 (-4) 1).bind fun t157=>(some t157)) else (some false))) else (some false)) else (some false)) else (some false)) else (some false)) else (some false)) else (some false)) else (some false)) else (some false)) else (some false)) else (some false)))))
set_option maxHeartbeats 8000000 in
theorem Ax.calls (k:Nat) (r:Bool) (w:World) (h:Ax.f k=some r) (ht:Tab w):
  Calls Tryd.prog 10 #[] w fun e w'=>e= .returned (.bool r)∧Below w.heap.size w w':=by
 have HTB:=Aside0.mk ht
 clear ht
 have hu33:=Tryd.underlying33
 have HB:=Aside0.mk (Below.refl w.heap.size w)
 have H:((Ad.f 1 96).bind fun bt146=>((Ad.f 1 80).bind fun bt149=>((Aa.f k 3 (-4) 1 96).bind fun bt152=>((AU.f k 96 0 96).bind fun bt154=>(if bt146.2.2=0 then (if bt149.2.2=0 then (if bt152.2=0 then (if bt154.2=0 then (if bt146.1=4 then (if bt146.2.1=0 then (if bt149.1=3 then (if bt149.2.1=8 then (if bt152.1.toList=([52,32,55,53,48,32,100,111,119,110]:List UInt8) then (if bt154.1=0 then ((B0.f 96).bind fun t156=>(if t156=true then ((Al.f k 3 (-4) 1).bind fun t157=>(some t157)) else (some false))) else (some false)) else (some false)) else (some false)) else (some false)) else (some false)) else (some false)) else (some false)) else (some false)) else (some false)) else (some false))))))=some r:=h
 clear h
 replace H:=Option.bind_eq_some_iff.mp H
 obtain ⟨⟨t146,t147,t148⟩,A10,H⟩:=H
 replace H:((Ad.f 1 80).bind fun bt149=>((Aa.f k 3 (-4) 1 96).bind fun bt152=>((AU.f k 96 0 96).bind fun bt154=>(if t148=0 then (if bt149.2.2=0 then (if bt152.2=0 then (if bt154.2=0 then (if t146=4 then (if t147=0 then (if bt149.1=3 then (if bt149.2.1=8 then (if bt152.1.toList=([52,32,55,53,48,32,100,111,119,110]:List UInt8) then (if bt154.1=0 then ((B0.f 96).bind fun t156=>(if t156=true then ((Al.f k 3 (-4) 1).bind fun t157=>(some t157)) else (some false))) else (some false)) else (some false)) else (some false)) else (some false)) else (some false)) else (some false)) else (some false)) else (some false)) else (some false)) else (some false)))))=some r:=H
 have A1:=Aside0.mk A10
 clear A10
 replace H:=Option.bind_eq_some_iff.mp H
 obtain ⟨⟨t149,t150,t151⟩,A20,H⟩:=H
 replace H:((Aa.f k 3 (-4) 1 96).bind fun bt152=>((AU.f k 96 0 96).bind fun bt154=>(if t148=0 then (if t151=0 then (if bt152.2=0 then (if bt154.2=0 then (if t146=4 then (if t147=0 then (if t149=3 then (if t150=8 then (if bt152.1.toList=([52,32,55,53,48,32,100,111,119,110]:List UInt8) then (if bt154.1=0 then ((B0.f 96).bind fun t156=>(if t156=true then ((Al.f k 3 (-4) 1).bind fun t157=>(some t157)) else (some false))) else (some false)) else (some false)) else (some false)) else (some false)) else (some false)) else (some false)) else (some false)) else (some false)) else (some false)) else (some false))))=some r:=H
 have A2:=Aside0.mk A20
 clear A20
 replace H:=Option.bind_eq_some_iff.mp H
 obtain ⟨⟨t152,t153⟩,A30,H⟩:=H
 replace H:((AU.f k 96 0 96).bind fun bt154=>(if t148=0 then (if t151=0 then (if t153=0 then (if bt154.2=0 then (if t146=4 then (if t147=0 then (if t149=3 then (if t150=8 then (if t152.toList=([52,32,55,53,48,32,100,111,119,110]:List UInt8) then (if bt154.1=0 then ((B0.f 96).bind fun t156=>(if t156=true then ((Al.f k 3 (-4) 1).bind fun t157=>(some t157)) else (some false))) else (some false)) else (some false)) else (some false)) else (some false)) else (some false)) else (some false)) else (some false)) else (some false)) else (some false)) else (some false)))=some r:=H
 have A3:=Aside0.mk A30
 clear A30
 replace H:=Option.bind_eq_some_iff.mp H
 obtain ⟨⟨t154,t155⟩,A40,H⟩:=H
 replace H:(if t148=0 then (if t151=0 then (if t153=0 then (if t155=0 then (if t146=4 then (if t147=0 then (if t149=3 then (if t150=8 then (if t152.toList=([52,32,55,53,48,32,100,111,119,110]:List UInt8) then (if t154=0 then ((B0.f 96).bind fun t156=>(if t156=true then ((Al.f k 3 (-4) 1).bind fun t157=>(some t157)) else (some false))) else (some false)) else (some false)) else (some false)) else (some false)) else (some false)) else (some false)) else (some false)) else (some false)) else (some false)) else (some false))=some r:=H
 have A4:=Aside0.mk A40
 clear A40
 by_cases c5:t148=0
 ·rw [if_pos c5] at H
  have c5b0:(t148==0)=true:=beq_iff_eq.mpr c5
  have c5b1:(t148 !=0)=false:=bne_eq_false_iff_eq.mpr c5
  clear c5
  by_cases c6:t151=0
  ·rw [if_pos c6] at H
   have c6b0:(t151==0)=true:=beq_iff_eq.mpr c6
   have c6b1:(t151 !=0)=false:=bne_eq_false_iff_eq.mpr c6
   clear c6
   by_cases c7:t153=0
   ·rw [if_pos c7] at H
    have c7b0:(t153==0)=true:=beq_iff_eq.mpr c7
    have c7b1:(t153 !=0)=false:=bne_eq_false_iff_eq.mpr c7
    clear c7
    by_cases c8:t155=0
    ·rw [if_pos c8] at H
     have c8b0:(t155==0)=true:=beq_iff_eq.mpr c8
     have c8b1:(t155 !=0)=false:=bne_eq_false_iff_eq.mpr c8
     clear c8
     by_cases c9:t146=4
     ·rw [if_pos c9] at H
      have c9b0:(t146==4)=true:=beq_iff_eq.mpr c9
      have c9b1:(t146 !=4)=false:=bne_eq_false_iff_eq.mpr c9
      clear c9
      by_cases c10:t147=0
      ·rw [if_pos c10] at H
       have c10b0:(t147==0)=true:=beq_iff_eq.mpr c10
       have c10b1:(t147 !=0)=false:=bne_eq_false_iff_eq.mpr c10
       clear c10
       by_cases c11:t149=3
       ·rw [if_pos c11] at H
        have c11b0:(t149==3)=true:=beq_iff_eq.mpr c11
        have c11b1:(t149 !=3)=false:=bne_eq_false_iff_eq.mpr c11
        clear c11
        by_cases c12:t150=8
        ·rw [if_pos c12] at H
         have c12b0:(t150==8)=true:=beq_iff_eq.mpr c12
         have c12b1:(t150 !=8)=false:=bne_eq_false_iff_eq.mpr c12
         clear c12
         by_cases c13:t152.toList=([52,32,55,53,48,32,100,111,119,110]:List UInt8)
         ·rw [if_pos c13] at H
          have c13b0:(t152.toList==([52,32,55,53,48,32,100,111,119,110]:List UInt8))=true:=beq_iff_eq.mpr c13
          have c13b1:(t152.toList !=([52,32,55,53,48,32,100,111,119,110]:List UInt8))=false:=bne_eq_false_iff_eq.mpr c13
          clear c13
          by_cases c14:t154=0
          ·rw [if_pos c14] at H
           have c14b0:(t154==0)=true:=beq_iff_eq.mpr c14
           have c14b1:(t154 !=0)=false:=bne_eq_false_iff_eq.mpr c14
           clear c14
           replace H:=Option.bind_eq_some_iff.mp H
           obtain ⟨t156,A150,H⟩:=H
           replace H:(if t156=true then ((Al.f k 3 (-4) 1).bind fun t157=>(some t157)) else (some false))=some r:=H
           have A15:=Aside0.mk A150
           clear A150
           by_cases c16:t156=true
           ·subst c16
            have H1:((Al.f k 3 (-4) 1).bind fun t157=>(some t157))=some r:=by rw [if_pos rfl] at H; exact H
            clear H
            have H:=H1
            clear H1
            replace H:=Option.bind_eq_some_iff.mp H
            obtain ⟨t157,A170,H⟩:=H
            replace H:(some t157)=some r:=H
            have A17:=Aside0.mk A170
            clear A170
            obtain rfl:=Option.some.inj H
            go_enter Tryd.func10,Tryd.ntmps10
            go_wp2_with (first|((with_reducible refine AQ (f:=11) rfl ?_); refine Ag (some 12) rfl rfl Tryd.func11 (by kernel_rfl) rfl #[.int .i64 1,.int .i64 96] rfl (by (try simp only [List.map_toArray,List.map_cons,List.map_nil]); first|done|rfl|(simp only [List.length_drop,List.length_take]; rfl)) ?_; (with_reducible refine (Ad.calls 1 96 t146 t147 t148 _ A1.out).mono ?_); rintro e w' ⟨rfl,⟨nd,rfl⟩⟩; refine ⟨_,rfl,?_⟩)|((with_reducible refine AQ (f:=11) rfl ?_); refine Ag (some 17) rfl rfl Tryd.func11 (by kernel_rfl) rfl #[.int .i64 1,.int .i64 80] rfl (by (try simp only [List.map_toArray,List.map_cons,List.map_nil]); first|done|rfl|(simp only [List.length_drop,List.length_take]; rfl)) ?_; (with_reducible refine (Ad.calls 1 80 t149 t150 t151 _ A2.out).mono ?_); rintro e w' ⟨rfl,⟨nd,rfl⟩⟩; refine ⟨_,rfl,?_⟩)|((with_reducible refine AQ (f:=32) rfl ?_); refine Ag (some 23) rfl rfl Tryd.func32 (by kernel_rfl) rfl #[.agg #[.int .i64 3,.int .i64 (-4),.int .i64 1],.int .i64 96] rfl (by (try simp only [List.map_toArray,List.map_cons,List.map_nil]); first|done|rfl|(simp only [List.length_drop,List.length_take]; rfl)) ?_; (with_reducible refine (Aa.calls k 3 (-4) 1 96 t152 t153 _ A3.out (Tab.below HTB.out (by repeat (first|(with_reducible first|exact HB.out|apply AI|apply AG|apply AH)|exact HB.out)))).mono ?_); rintro e w18 ⟨rfl,hb⟩; refine ⟨_,rfl,?_⟩; have n0_:=Aside0.mk (AP (by repeat (first|(with_reducible first|exact HB.out|apply AI|apply AG|apply AH)|exact HB.out)) hb); clear HB; have HB:=n0_; clear n0_; (try clear hb); (try clear hb2); (try clear hk); (try clear hi))|((with_reducible refine AQ (f:=13) rfl ?_); refine Ag (some 27) rfl rfl Tryd.func13 (by kernel_rfl) rfl #[.int .i64 96,.int .i64 0,.int .i64 96] rfl (by (try simp only [List.map_toArray,List.map_cons,List.map_nil]); first|done|rfl|(simp only [List.length_drop,List.length_take]; rfl)) ?_; (with_reducible refine (AU.calls k 96 0 96 t154 t155 _ A4.out).mono ?_); rintro e w' ⟨rfl,⟨nd,rfl⟩⟩; refine ⟨_,rfl,?_⟩)|(go_at_call 15; (with_reducible refine (B0.calls 96 true _ A15.out).mono ?_); rintro e w' ⟨rfl,⟨nd,rfl⟩⟩)|(go_at_call 20; (with_reducible refine (Al.calls k 3 (-4) 1 t157 _ A17.out).mono ?_); rintro e w19 ⟨rfl,hb⟩; have n0_:=Aside0.mk (AP (by repeat (first|(with_reducible first|exact HB.out|apply AI|apply AG|apply AH)|exact HB.out)) hb); clear HB; have HB:=n0_; clear n0_; (try clear hb); (try clear hb2); (try clear hk); (try clear hi)))
            go_ret
            exact ⟨by first|rfl|(simp [AS,AR]<;>rfl)|(simp [*,AS,AR]<;>rfl),by repeat (first|(with_reducible first|exact HB.out|apply AI|apply AG|apply AH)|exact HB.out)⟩
           ·replace c16:=Bool.eq_false_iff.mpr c16
            subst c16
            have H1:(some false)=some r:=by rw [if_neg (show ¬(false=true) by decide)] at H; exact H
            clear H
            have H:=H1
            clear H1
            obtain rfl:=Option.some.inj H
            go_enter Tryd.func10,Tryd.ntmps10
            go_wp2_with (first|((with_reducible refine AQ (f:=11) rfl ?_); refine Ag (some 12) rfl rfl Tryd.func11 (by kernel_rfl) rfl #[.int .i64 1,.int .i64 96] rfl (by (try simp only [List.map_toArray,List.map_cons,List.map_nil]); first|done|rfl|(simp only [List.length_drop,List.length_take]; rfl)) ?_; (with_reducible refine (Ad.calls 1 96 t146 t147 t148 _ A1.out).mono ?_); rintro e w' ⟨rfl,⟨nd,rfl⟩⟩; refine ⟨_,rfl,?_⟩)|((with_reducible refine AQ (f:=11) rfl ?_); refine Ag (some 17) rfl rfl Tryd.func11 (by kernel_rfl) rfl #[.int .i64 1,.int .i64 80] rfl (by (try simp only [List.map_toArray,List.map_cons,List.map_nil]); first|done|rfl|(simp only [List.length_drop,List.length_take]; rfl)) ?_; (with_reducible refine (Ad.calls 1 80 t149 t150 t151 _ A2.out).mono ?_); rintro e w' ⟨rfl,⟨nd,rfl⟩⟩; refine ⟨_,rfl,?_⟩)|((with_reducible refine AQ (f:=32) rfl ?_); refine Ag (some 23) rfl rfl Tryd.func32 (by kernel_rfl) rfl #[.agg #[.int .i64 3,.int .i64 (-4),.int .i64 1],.int .i64 96] rfl (by (try simp only [List.map_toArray,List.map_cons,List.map_nil]); first|done|rfl|(simp only [List.length_drop,List.length_take]; rfl)) ?_; (with_reducible refine (Aa.calls k 3 (-4) 1 96 t152 t153 _ A3.out (Tab.below HTB.out (by repeat (first|(with_reducible first|exact HB.out|apply AI|apply AG|apply AH)|exact HB.out)))).mono ?_); rintro e w20 ⟨rfl,hb⟩; refine ⟨_,rfl,?_⟩; have n0_:=Aside0.mk (AP (by repeat (first|(with_reducible first|exact HB.out|apply AI|apply AG|apply AH)|exact HB.out)) hb); clear HB; have HB:=n0_; clear n0_; (try clear hb); (try clear hb2); (try clear hk); (try clear hi))|((with_reducible refine AQ (f:=13) rfl ?_); refine Ag (some 27) rfl rfl Tryd.func13 (by kernel_rfl) rfl #[.int .i64 96,.int .i64 0,.int .i64 96] rfl (by (try simp only [List.map_toArray,List.map_cons,List.map_nil]); first|done|rfl|(simp only [List.length_drop,List.length_take]; rfl)) ?_; (with_reducible refine (AU.calls k 96 0 96 t154 t155 _ A4.out).mono ?_); rintro e w' ⟨rfl,⟨nd,rfl⟩⟩; refine ⟨_,rfl,?_⟩)|(go_at_call 15; (with_reducible refine (B0.calls 96 false _ A15.out).mono ?_); rintro e w' ⟨rfl,⟨nd,rfl⟩⟩))
            go_ret
            exact ⟨by first|rfl|(simp [AS,AR]<;>rfl)|(simp [*,AS,AR]<;>rfl),by repeat (first|(with_reducible first|exact HB.out|apply AI|apply AG|apply AH)|exact HB.out)⟩
          ·rw [if_neg c14] at H
           have c14b0:(t154==0)=false:=beq_eq_false_iff_ne.mpr c14
           have c14b1:(t154 !=0)=true:=bne_iff_ne.mpr c14
           obtain rfl:=Option.some.inj H
           go_enter Tryd.func10,Tryd.ntmps10
           go_wp2_with (first|((with_reducible refine AQ (f:=11) rfl ?_); refine Ag (some 12) rfl rfl Tryd.func11 (by kernel_rfl) rfl #[.int .i64 1,.int .i64 96] rfl (by (try simp only [List.map_toArray,List.map_cons,List.map_nil]); first|done|rfl|(simp only [List.length_drop,List.length_take]; rfl)) ?_; (with_reducible refine (Ad.calls 1 96 t146 t147 t148 _ A1.out).mono ?_); rintro e w' ⟨rfl,⟨nd,rfl⟩⟩; refine ⟨_,rfl,?_⟩)|((with_reducible refine AQ (f:=11) rfl ?_); refine Ag (some 17) rfl rfl Tryd.func11 (by kernel_rfl) rfl #[.int .i64 1,.int .i64 80] rfl (by (try simp only [List.map_toArray,List.map_cons,List.map_nil]); first|done|rfl|(simp only [List.length_drop,List.length_take]; rfl)) ?_; (with_reducible refine (Ad.calls 1 80 t149 t150 t151 _ A2.out).mono ?_); rintro e w' ⟨rfl,⟨nd,rfl⟩⟩; refine ⟨_,rfl,?_⟩)|((with_reducible refine AQ (f:=32) rfl ?_); refine Ag (some 23) rfl rfl Tryd.func32 (by kernel_rfl) rfl #[.agg #[.int .i64 3,.int .i64 (-4),.int .i64 1],.int .i64 96] rfl (by (try simp only [List.map_toArray,List.map_cons,List.map_nil]); first|done|rfl|(simp only [List.length_drop,List.length_take]; rfl)) ?_; (with_reducible refine (Aa.calls k 3 (-4) 1 96 t152 t153 _ A3.out (Tab.below HTB.out (by repeat (first|(with_reducible first|exact HB.out|apply AI|apply AG|apply AH)|exact HB.out)))).mono ?_); rintro e w21 ⟨rfl,hb⟩; refine ⟨_,rfl,?_⟩; have n0_:=Aside0.mk (AP (by repeat (first|(with_reducible first|exact HB.out|apply AI|apply AG|apply AH)|exact HB.out)) hb); clear HB; have HB:=n0_; clear n0_; (try clear hb); (try clear hb2); (try clear hk); (try clear hi))|((with_reducible refine AQ (f:=13) rfl ?_); refine Ag (some 27) rfl rfl Tryd.func13 (by kernel_rfl) rfl #[.int .i64 96,.int .i64 0,.int .i64 96] rfl (by (try simp only [List.map_toArray,List.map_cons,List.map_nil]); first|done|rfl|(simp only [List.length_drop,List.length_take]; rfl)) ?_; (with_reducible refine (AU.calls k 96 0 96 t154 t155 _ A4.out).mono ?_); rintro e w' ⟨rfl,⟨nd,rfl⟩⟩; refine ⟨_,rfl,?_⟩))
           go_ret
           exact ⟨by first|rfl|(simp [AS,AR]<;>rfl)|(simp [*,AS,AR]<;>rfl),by repeat (first|(with_reducible first|exact HB.out|apply AI|apply AG|apply AH)|exact HB.out)⟩
         ·rw [if_neg c13] at H
          have c13b0:(t152.toList==([52,32,55,53,48,32,100,111,119,110]:List UInt8))=false:=beq_eq_false_iff_ne.mpr c13
          have c13b1:(t152.toList !=([52,32,55,53,48,32,100,111,119,110]:List UInt8))=true:=bne_iff_ne.mpr c13
          obtain rfl:=Option.some.inj H
          go_enter Tryd.func10,Tryd.ntmps10
          go_wp2_with (first|((with_reducible refine AQ (f:=11) rfl ?_); refine Ag (some 12) rfl rfl Tryd.func11 (by kernel_rfl) rfl #[.int .i64 1,.int .i64 96] rfl (by (try simp only [List.map_toArray,List.map_cons,List.map_nil]); first|done|rfl|(simp only [List.length_drop,List.length_take]; rfl)) ?_; (with_reducible refine (Ad.calls 1 96 t146 t147 t148 _ A1.out).mono ?_); rintro e w' ⟨rfl,⟨nd,rfl⟩⟩; refine ⟨_,rfl,?_⟩)|((with_reducible refine AQ (f:=11) rfl ?_); refine Ag (some 17) rfl rfl Tryd.func11 (by kernel_rfl) rfl #[.int .i64 1,.int .i64 80] rfl (by (try simp only [List.map_toArray,List.map_cons,List.map_nil]); first|done|rfl|(simp only [List.length_drop,List.length_take]; rfl)) ?_; (with_reducible refine (Ad.calls 1 80 t149 t150 t151 _ A2.out).mono ?_); rintro e w' ⟨rfl,⟨nd,rfl⟩⟩; refine ⟨_,rfl,?_⟩)|((with_reducible refine AQ (f:=32) rfl ?_); refine Ag (some 23) rfl rfl Tryd.func32 (by kernel_rfl) rfl #[.agg #[.int .i64 3,.int .i64 (-4),.int .i64 1],.int .i64 96] rfl (by (try simp only [List.map_toArray,List.map_cons,List.map_nil]); first|done|rfl|(simp only [List.length_drop,List.length_take]; rfl)) ?_; (with_reducible refine (Aa.calls k 3 (-4) 1 96 t152 t153 _ A3.out (Tab.below HTB.out (by repeat (first|(with_reducible first|exact HB.out|apply AI|apply AG|apply AH)|exact HB.out)))).mono ?_); rintro e w22 ⟨rfl,hb⟩; refine ⟨_,rfl,?_⟩; have n0_:=Aside0.mk (AP (by repeat (first|(with_reducible first|exact HB.out|apply AI|apply AG|apply AH)|exact HB.out)) hb); clear HB; have HB:=n0_; clear n0_; (try clear hb); (try clear hb2); (try clear hk); (try clear hi))|((with_reducible refine AQ (f:=13) rfl ?_); refine Ag (some 27) rfl rfl Tryd.func13 (by kernel_rfl) rfl #[.int .i64 96,.int .i64 0,.int .i64 96] rfl (by (try simp only [List.map_toArray,List.map_cons,List.map_nil]); first|done|rfl|(simp only [List.length_drop,List.length_take]; rfl)) ?_; (with_reducible refine (AU.calls k 96 0 96 t154 t155 _ A4.out).mono ?_); rintro e w' ⟨rfl,⟨nd,rfl⟩⟩; refine ⟨_,rfl,?_⟩))
          go_ret
          exact ⟨by first|rfl|(simp [AS,AR]<;>rfl)|(simp [*,AS,AR]<;>rfl),by repeat (first|(with_reducible first|exact HB.out|apply AI|apply AG|apply AH)|exact HB.out)⟩
        ·rw [if_neg c12] at H
         have c12b0:(t150==8)=false:=beq_eq_false_iff_ne.mpr c12
         have c12b1:(t150 !=8)=true:=bne_iff_ne.mpr c12
         obtain rfl:=Option.some.inj H
         go_enter Tryd.func10,Tryd.ntmps10
         go_wp2_with (first|((with_reducible refine AQ (f:=11) rfl ?_); refine Ag (some 12) rfl rfl Tryd.func11 (by kernel_rfl) rfl #[.int .i64 1,.int .i64 96] rfl (by (try simp only [List.map_toArray,List.map_cons,List.map_nil]); first|done|rfl|(simp only [List.length_drop,List.length_take]; rfl)) ?_; (with_reducible refine (Ad.calls 1 96 t146 t147 t148 _ A1.out).mono ?_); rintro e w' ⟨rfl,⟨nd,rfl⟩⟩; refine ⟨_,rfl,?_⟩)|((with_reducible refine AQ (f:=11) rfl ?_); refine Ag (some 17) rfl rfl Tryd.func11 (by kernel_rfl) rfl #[.int .i64 1,.int .i64 80] rfl (by (try simp only [List.map_toArray,List.map_cons,List.map_nil]); first|done|rfl|(simp only [List.length_drop,List.length_take]; rfl)) ?_; (with_reducible refine (Ad.calls 1 80 t149 t150 t151 _ A2.out).mono ?_); rintro e w' ⟨rfl,⟨nd,rfl⟩⟩; refine ⟨_,rfl,?_⟩)|((with_reducible refine AQ (f:=32) rfl ?_); refine Ag (some 23) rfl rfl Tryd.func32 (by kernel_rfl) rfl #[.agg #[.int .i64 3,.int .i64 (-4),.int .i64 1],.int .i64 96] rfl (by (try simp only [List.map_toArray,List.map_cons,List.map_nil]); first|done|rfl|(simp only [List.length_drop,List.length_take]; rfl)) ?_; (with_reducible refine (Aa.calls k 3 (-4) 1 96 t152 t153 _ A3.out (Tab.below HTB.out (by repeat (first|(with_reducible first|exact HB.out|apply AI|apply AG|apply AH)|exact HB.out)))).mono ?_); rintro e w23 ⟨rfl,hb⟩; refine ⟨_,rfl,?_⟩; have n0_:=Aside0.mk (AP (by repeat (first|(with_reducible first|exact HB.out|apply AI|apply AG|apply AH)|exact HB.out)) hb); clear HB; have HB:=n0_; clear n0_; (try clear hb); (try clear hb2); (try clear hk); (try clear hi))|((with_reducible refine AQ (f:=13) rfl ?_); refine Ag (some 27) rfl rfl Tryd.func13 (by kernel_rfl) rfl #[.int .i64 96,.int .i64 0,.int .i64 96] rfl (by (try simp only [List.map_toArray,List.map_cons,List.map_nil]); first|done|rfl|(simp only [List.length_drop,List.length_take]; rfl)) ?_; (with_reducible refine (AU.calls k 96 0 96 t154 t155 _ A4.out).mono ?_); rintro e w' ⟨rfl,⟨nd,rfl⟩⟩; refine ⟨_,rfl,?_⟩))
         go_ret
         exact ⟨by first|rfl|(simp [AS,AR]<;>rfl)|(simp [*,AS,AR]<;>rfl),by repeat (first|(with_reducible first|exact HB.out|apply AI|apply AG|apply AH)|exact HB.out)⟩
       ·rw [if_neg c11] at H
        have c11b0:(t149==3)=false:=beq_eq_false_iff_ne.mpr c11
        have c11b1:(t149 !=3)=true:=bne_iff_ne.mpr c11
        obtain rfl:=Option.some.inj H
        go_enter Tryd.func10,Tryd.ntmps10
        go_wp2_with (first|((with_reducible refine AQ (f:=11) rfl ?_); refine Ag (some 12) rfl rfl Tryd.func11 (by kernel_rfl) rfl #[.int .i64 1,.int .i64 96] rfl (by (try simp only [List.map_toArray,List.map_cons,List.map_nil]); first|done|rfl|(simp only [List.length_drop,List.length_take]; rfl)) ?_; (with_reducible refine (Ad.calls 1 96 t146 t147 t148 _ A1.out).mono ?_); rintro e w' ⟨rfl,⟨nd,rfl⟩⟩; refine ⟨_,rfl,?_⟩)|((with_reducible refine AQ (f:=11) rfl ?_); refine Ag (some 17) rfl rfl Tryd.func11 (by kernel_rfl) rfl #[.int .i64 1,.int .i64 80] rfl (by (try simp only [List.map_toArray,List.map_cons,List.map_nil]); first|done|rfl|(simp only [List.length_drop,List.length_take]; rfl)) ?_; (with_reducible refine (Ad.calls 1 80 t149 t150 t151 _ A2.out).mono ?_); rintro e w' ⟨rfl,⟨nd,rfl⟩⟩; refine ⟨_,rfl,?_⟩)|((with_reducible refine AQ (f:=32) rfl ?_); refine Ag (some 23) rfl rfl Tryd.func32 (by kernel_rfl) rfl #[.agg #[.int .i64 3,.int .i64 (-4),.int .i64 1],.int .i64 96] rfl (by (try simp only [List.map_toArray,List.map_cons,List.map_nil]); first|done|rfl|(simp only [List.length_drop,List.length_take]; rfl)) ?_; (with_reducible refine (Aa.calls k 3 (-4) 1 96 t152 t153 _ A3.out (Tab.below HTB.out (by repeat (first|(with_reducible first|exact HB.out|apply AI|apply AG|apply AH)|exact HB.out)))).mono ?_); rintro e w24 ⟨rfl,hb⟩; refine ⟨_,rfl,?_⟩; have n0_:=Aside0.mk (AP (by repeat (first|(with_reducible first|exact HB.out|apply AI|apply AG|apply AH)|exact HB.out)) hb); clear HB; have HB:=n0_; clear n0_; (try clear hb); (try clear hb2); (try clear hk); (try clear hi))|((with_reducible refine AQ (f:=13) rfl ?_); refine Ag (some 27) rfl rfl Tryd.func13 (by kernel_rfl) rfl #[.int .i64 96,.int .i64 0,.int .i64 96] rfl (by (try simp only [List.map_toArray,List.map_cons,List.map_nil]); first|done|rfl|(simp only [List.length_drop,List.length_take]; rfl)) ?_; (with_reducible refine (AU.calls k 96 0 96 t154 t155 _ A4.out).mono ?_); rintro e w' ⟨rfl,⟨nd,rfl⟩⟩; refine ⟨_,rfl,?_⟩))
        go_ret
        exact ⟨by first|rfl|(simp [AS,AR]<;>rfl)|(simp [*,AS,AR]<;>rfl),by repeat (first|(with_reducible first|exact HB.out|apply AI|apply AG|apply AH)|exact HB.out)⟩
      ·rw [if_neg c10] at H
       have c10b0:(t147==0)=false:=beq_eq_false_iff_ne.mpr c10
       have c10b1:(t147 !=0)=true:=bne_iff_ne.mpr c10
       obtain rfl:=Option.some.inj H
       go_enter Tryd.func10,Tryd.ntmps10
       go_wp2_with (first|((with_reducible refine AQ (f:=11) rfl ?_); refine Ag (some 12) rfl rfl Tryd.func11 (by kernel_rfl) rfl #[.int .i64 1,.int .i64 96] rfl (by (try simp only [List.map_toArray,List.map_cons,List.map_nil]); first|done|rfl|(simp only [List.length_drop,List.length_take]; rfl)) ?_; (with_reducible refine (Ad.calls 1 96 t146 t147 t148 _ A1.out).mono ?_); rintro e w' ⟨rfl,⟨nd,rfl⟩⟩; refine ⟨_,rfl,?_⟩)|((with_reducible refine AQ (f:=11) rfl ?_); refine Ag (some 17) rfl rfl Tryd.func11 (by kernel_rfl) rfl #[.int .i64 1,.int .i64 80] rfl (by (try simp only [List.map_toArray,List.map_cons,List.map_nil]); first|done|rfl|(simp only [List.length_drop,List.length_take]; rfl)) ?_; (with_reducible refine (Ad.calls 1 80 t149 t150 t151 _ A2.out).mono ?_); rintro e w' ⟨rfl,⟨nd,rfl⟩⟩; refine ⟨_,rfl,?_⟩)|((with_reducible refine AQ (f:=32) rfl ?_); refine Ag (some 23) rfl rfl Tryd.func32 (by kernel_rfl) rfl #[.agg #[.int .i64 3,.int .i64 (-4),.int .i64 1],.int .i64 96] rfl (by (try simp only [List.map_toArray,List.map_cons,List.map_nil]); first|done|rfl|(simp only [List.length_drop,List.length_take]; rfl)) ?_; (with_reducible refine (Aa.calls k 3 (-4) 1 96 t152 t153 _ A3.out (Tab.below HTB.out (by repeat (first|(with_reducible first|exact HB.out|apply AI|apply AG|apply AH)|exact HB.out)))).mono ?_); rintro e w25 ⟨rfl,hb⟩; refine ⟨_,rfl,?_⟩; have n0_:=Aside0.mk (AP (by repeat (first|(with_reducible first|exact HB.out|apply AI|apply AG|apply AH)|exact HB.out)) hb); clear HB; have HB:=n0_; clear n0_; (try clear hb); (try clear hb2); (try clear hk); (try clear hi))|((with_reducible refine AQ (f:=13) rfl ?_); refine Ag (some 27) rfl rfl Tryd.func13 (by kernel_rfl) rfl #[.int .i64 96,.int .i64 0,.int .i64 96] rfl (by (try simp only [List.map_toArray,List.map_cons,List.map_nil]); first|done|rfl|(simp only [List.length_drop,List.length_take]; rfl)) ?_; (with_reducible refine (AU.calls k 96 0 96 t154 t155 _ A4.out).mono ?_); rintro e w' ⟨rfl,⟨nd,rfl⟩⟩; refine ⟨_,rfl,?_⟩))
       go_ret
       exact ⟨by first|rfl|(simp [AS,AR]<;>rfl)|(simp [*,AS,AR]<;>rfl),by repeat (first|(with_reducible first|exact HB.out|apply AI|apply AG|apply AH)|exact HB.out)⟩
     ·rw [if_neg c9] at H
      have c9b0:(t146==4)=false:=beq_eq_false_iff_ne.mpr c9
      have c9b1:(t146 !=4)=true:=bne_iff_ne.mpr c9
      obtain rfl:=Option.some.inj H
      go_enter Tryd.func10,Tryd.ntmps10
      go_wp2_with (first|((with_reducible refine AQ (f:=11) rfl ?_); refine Ag (some 12) rfl rfl Tryd.func11 (by kernel_rfl) rfl #[.int .i64 1,.int .i64 96] rfl (by (try simp only [List.map_toArray,List.map_cons,List.map_nil]); first|done|rfl|(simp only [List.length_drop,List.length_take]; rfl)) ?_; (with_reducible refine (Ad.calls 1 96 t146 t147 t148 _ A1.out).mono ?_); rintro e w' ⟨rfl,⟨nd,rfl⟩⟩; refine ⟨_,rfl,?_⟩)|((with_reducible refine AQ (f:=11) rfl ?_); refine Ag (some 17) rfl rfl Tryd.func11 (by kernel_rfl) rfl #[.int .i64 1,.int .i64 80] rfl (by (try simp only [List.map_toArray,List.map_cons,List.map_nil]); first|done|rfl|(simp only [List.length_drop,List.length_take]; rfl)) ?_; (with_reducible refine (Ad.calls 1 80 t149 t150 t151 _ A2.out).mono ?_); rintro e w' ⟨rfl,⟨nd,rfl⟩⟩; refine ⟨_,rfl,?_⟩)|((with_reducible refine AQ (f:=32) rfl ?_); refine Ag (some 23) rfl rfl Tryd.func32 (by kernel_rfl) rfl #[.agg #[.int .i64 3,.int .i64 (-4),.int .i64 1],.int .i64 96] rfl (by (try simp only [List.map_toArray,List.map_cons,List.map_nil]); first|done|rfl|(simp only [List.length_drop,List.length_take]; rfl)) ?_; (with_reducible refine (Aa.calls k 3 (-4) 1 96 t152 t153 _ A3.out (Tab.below HTB.out (by repeat (first|(with_reducible first|exact HB.out|apply AI|apply AG|apply AH)|exact HB.out)))).mono ?_); rintro e w26 ⟨rfl,hb⟩; refine ⟨_,rfl,?_⟩; have n0_:=Aside0.mk (AP (by repeat (first|(with_reducible first|exact HB.out|apply AI|apply AG|apply AH)|exact HB.out)) hb); clear HB; have HB:=n0_; clear n0_; (try clear hb); (try clear hb2); (try clear hk); (try clear hi))|((with_reducible refine AQ (f:=13) rfl ?_); refine Ag (some 27) rfl rfl Tryd.func13 (by kernel_rfl) rfl #[.int .i64 96,.int .i64 0,.int .i64 96] rfl (by (try simp only [List.map_toArray,List.map_cons,List.map_nil]); first|done|rfl|(simp only [List.length_drop,List.length_take]; rfl)) ?_; (with_reducible refine (AU.calls k 96 0 96 t154 t155 _ A4.out).mono ?_); rintro e w' ⟨rfl,⟨nd,rfl⟩⟩; refine ⟨_,rfl,?_⟩))
      go_ret
      exact ⟨by first|rfl|(simp [AS,AR]<;>rfl)|(simp [*,AS,AR]<;>rfl),by repeat (first|(with_reducible first|exact HB.out|apply AI|apply AG|apply AH)|exact HB.out)⟩
    ·rw [if_neg c8] at H
     have c8b0:(t155==0)=false:=beq_eq_false_iff_ne.mpr c8
     have c8b1:(t155 !=0)=true:=bne_iff_ne.mpr c8
     obtain rfl:=Option.some.inj H
     go_enter Tryd.func10,Tryd.ntmps10
     go_wp2_with (first|((with_reducible refine AQ (f:=11) rfl ?_); refine Ag (some 12) rfl rfl Tryd.func11 (by kernel_rfl) rfl #[.int .i64 1,.int .i64 96] rfl (by (try simp only [List.map_toArray,List.map_cons,List.map_nil]); first|done|rfl|(simp only [List.length_drop,List.length_take]; rfl)) ?_; (with_reducible refine (Ad.calls 1 96 t146 t147 t148 _ A1.out).mono ?_); rintro e w' ⟨rfl,⟨nd,rfl⟩⟩; refine ⟨_,rfl,?_⟩)|((with_reducible refine AQ (f:=11) rfl ?_); refine Ag (some 17) rfl rfl Tryd.func11 (by kernel_rfl) rfl #[.int .i64 1,.int .i64 80] rfl (by (try simp only [List.map_toArray,List.map_cons,List.map_nil]); first|done|rfl|(simp only [List.length_drop,List.length_take]; rfl)) ?_; (with_reducible refine (Ad.calls 1 80 t149 t150 t151 _ A2.out).mono ?_); rintro e w' ⟨rfl,⟨nd,rfl⟩⟩; refine ⟨_,rfl,?_⟩)|((with_reducible refine AQ (f:=32) rfl ?_); refine Ag (some 23) rfl rfl Tryd.func32 (by kernel_rfl) rfl #[.agg #[.int .i64 3,.int .i64 (-4),.int .i64 1],.int .i64 96] rfl (by (try simp only [List.map_toArray,List.map_cons,List.map_nil]); first|done|rfl|(simp only [List.length_drop,List.length_take]; rfl)) ?_; (with_reducible refine (Aa.calls k 3 (-4) 1 96 t152 t153 _ A3.out (Tab.below HTB.out (by repeat (first|(with_reducible first|exact HB.out|apply AI|apply AG|apply AH)|exact HB.out)))).mono ?_); rintro e w27 ⟨rfl,hb⟩; refine ⟨_,rfl,?_⟩; have n0_:=Aside0.mk (AP (by repeat (first|(with_reducible first|exact HB.out|apply AI|apply AG|apply AH)|exact HB.out)) hb); clear HB; have HB:=n0_; clear n0_; (try clear hb); (try clear hb2); (try clear hk); (try clear hi))|((with_reducible refine AQ (f:=13) rfl ?_); refine Ag (some 27) rfl rfl Tryd.func13 (by kernel_rfl) rfl #[.int .i64 96,.int .i64 0,.int .i64 96] rfl (by (try simp only [List.map_toArray,List.map_cons,List.map_nil]); first|done|rfl|(simp only [List.length_drop,List.length_take]; rfl)) ?_; (with_reducible refine (AU.calls k 96 0 96 t154 t155 _ A4.out).mono ?_); rintro e w' ⟨rfl,⟨nd,rfl⟩⟩; refine ⟨_,rfl,?_⟩))
     go_ret
     exact ⟨by first|rfl|(simp [AS,AR]<;>rfl)|(simp [*,AS,AR]<;>rfl),by repeat (first|(with_reducible first|exact HB.out|apply AI|apply AG|apply AH)|exact HB.out)⟩
   ·rw [if_neg c7] at H
    have c7b0:(t153==0)=false:=beq_eq_false_iff_ne.mpr c7
    have c7b1:(t153 !=0)=true:=bne_iff_ne.mpr c7
    obtain rfl:=Option.some.inj H
    go_enter Tryd.func10,Tryd.ntmps10
    go_wp2_with (first|((with_reducible refine AQ (f:=11) rfl ?_); refine Ag (some 12) rfl rfl Tryd.func11 (by kernel_rfl) rfl #[.int .i64 1,.int .i64 96] rfl (by (try simp only [List.map_toArray,List.map_cons,List.map_nil]); first|done|rfl|(simp only [List.length_drop,List.length_take]; rfl)) ?_; (with_reducible refine (Ad.calls 1 96 t146 t147 t148 _ A1.out).mono ?_); rintro e w' ⟨rfl,⟨nd,rfl⟩⟩; refine ⟨_,rfl,?_⟩)|((with_reducible refine AQ (f:=11) rfl ?_); refine Ag (some 17) rfl rfl Tryd.func11 (by kernel_rfl) rfl #[.int .i64 1,.int .i64 80] rfl (by (try simp only [List.map_toArray,List.map_cons,List.map_nil]); first|done|rfl|(simp only [List.length_drop,List.length_take]; rfl)) ?_; (with_reducible refine (Ad.calls 1 80 t149 t150 t151 _ A2.out).mono ?_); rintro e w' ⟨rfl,⟨nd,rfl⟩⟩; refine ⟨_,rfl,?_⟩)|((with_reducible refine AQ (f:=32) rfl ?_); refine Ag (some 23) rfl rfl Tryd.func32 (by kernel_rfl) rfl #[.agg #[.int .i64 3,.int .i64 (-4),.int .i64 1],.int .i64 96] rfl (by (try simp only [List.map_toArray,List.map_cons,List.map_nil]); first|done|rfl|(simp only [List.length_drop,List.length_take]; rfl)) ?_; (with_reducible refine (Aa.calls k 3 (-4) 1 96 t152 t153 _ A3.out (Tab.below HTB.out (by repeat (first|(with_reducible first|exact HB.out|apply AI|apply AG|apply AH)|exact HB.out)))).mono ?_); rintro e w28 ⟨rfl,hb⟩; refine ⟨_,rfl,?_⟩; have n0_:=Aside0.mk (AP (by repeat (first|(with_reducible first|exact HB.out|apply AI|apply AG|apply AH)|exact HB.out)) hb); clear HB; have HB:=n0_; clear n0_; (try clear hb); (try clear hb2); (try clear hk); (try clear hi))|((with_reducible refine AQ (f:=13) rfl ?_); refine Ag (some 27) rfl rfl Tryd.func13 (by kernel_rfl) rfl #[.int .i64 96,.int .i64 0,.int .i64 96] rfl (by (try simp only [List.map_toArray,List.map_cons,List.map_nil]); first|done|rfl|(simp only [List.length_drop,List.length_take]; rfl)) ?_; (with_reducible refine (AU.calls k 96 0 96 t154 t155 _ A4.out).mono ?_); rintro e w' ⟨rfl,⟨nd,rfl⟩⟩; refine ⟨_,rfl,?_⟩))
    go_ret
    exact ⟨by first|rfl|(simp [AS,AR]<;>rfl)|(simp [*,AS,AR]<;>rfl),by repeat (first|(with_reducible first|exact HB.out|apply AI|apply AG|apply AH)|exact HB.out)⟩
  ·rw [if_neg c6] at H
   have c6b0:(t151==0)=false:=beq_eq_false_iff_ne.mpr c6
   have c6b1:(t151 !=0)=true:=bne_iff_ne.mpr c6
   obtain rfl:=Option.some.inj H
   go_enter Tryd.func10,Tryd.ntmps10
   go_wp2_with (first|((with_reducible refine AQ (f:=11) rfl ?_); refine Ag (some 12) rfl rfl Tryd.func11 (by kernel_rfl) rfl #[.int .i64 1,.int .i64 96] rfl (by (try simp only [List.map_toArray,List.map_cons,List.map_nil]); first|done|rfl|(simp only [List.length_drop,List.length_take]; rfl)) ?_; (with_reducible refine (Ad.calls 1 96 t146 t147 t148 _ A1.out).mono ?_); rintro e w' ⟨rfl,⟨nd,rfl⟩⟩; refine ⟨_,rfl,?_⟩)|((with_reducible refine AQ (f:=11) rfl ?_); refine Ag (some 17) rfl rfl Tryd.func11 (by kernel_rfl) rfl #[.int .i64 1,.int .i64 80] rfl (by (try simp only [List.map_toArray,List.map_cons,List.map_nil]); first|done|rfl|(simp only [List.length_drop,List.length_take]; rfl)) ?_; (with_reducible refine (Ad.calls 1 80 t149 t150 t151 _ A2.out).mono ?_); rintro e w' ⟨rfl,⟨nd,rfl⟩⟩; refine ⟨_,rfl,?_⟩)|((with_reducible refine AQ (f:=32) rfl ?_); refine Ag (some 23) rfl rfl Tryd.func32 (by kernel_rfl) rfl #[.agg #[.int .i64 3,.int .i64 (-4),.int .i64 1],.int .i64 96] rfl (by (try simp only [List.map_toArray,List.map_cons,List.map_nil]); first|done|rfl|(simp only [List.length_drop,List.length_take]; rfl)) ?_; (with_reducible refine (Aa.calls k 3 (-4) 1 96 t152 t153 _ A3.out (Tab.below HTB.out (by repeat (first|(with_reducible first|exact HB.out|apply AI|apply AG|apply AH)|exact HB.out)))).mono ?_); rintro e w29 ⟨rfl,hb⟩; refine ⟨_,rfl,?_⟩; have n0_:=Aside0.mk (AP (by repeat (first|(with_reducible first|exact HB.out|apply AI|apply AG|apply AH)|exact HB.out)) hb); clear HB; have HB:=n0_; clear n0_; (try clear hb); (try clear hb2); (try clear hk); (try clear hi))|((with_reducible refine AQ (f:=13) rfl ?_); refine Ag (some 27) rfl rfl Tryd.func13 (by kernel_rfl) rfl #[.int .i64 96,.int .i64 0,.int .i64 96] rfl (by (try simp only [List.map_toArray,List.map_cons,List.map_nil]); first|done|rfl|(simp only [List.length_drop,List.length_take]; rfl)) ?_; (with_reducible refine (AU.calls k 96 0 96 t154 t155 _ A4.out).mono ?_); rintro e w' ⟨rfl,⟨nd,rfl⟩⟩; refine ⟨_,rfl,?_⟩))
   go_ret
   exact ⟨by first|rfl|(simp [AS,AR]<;>rfl)|(simp [*,AS,AR]<;>rfl),by repeat (first|(with_reducible first|exact HB.out|apply AI|apply AG|apply AH)|exact HB.out)⟩
 ·rw [if_neg c5] at H
  have c5b0:(t148==0)=false:=beq_eq_false_iff_ne.mpr c5
  have c5b1:(t148 !=0)=true:=bne_iff_ne.mpr c5
  obtain rfl:=Option.some.inj H
  go_enter Tryd.func10,Tryd.ntmps10
  go_wp2_with (first|((with_reducible refine AQ (f:=11) rfl ?_); refine Ag (some 12) rfl rfl Tryd.func11 (by kernel_rfl) rfl #[.int .i64 1,.int .i64 96] rfl (by (try simp only [List.map_toArray,List.map_cons,List.map_nil]); first|done|rfl|(simp only [List.length_drop,List.length_take]; rfl)) ?_; (with_reducible refine (Ad.calls 1 96 t146 t147 t148 _ A1.out).mono ?_); rintro e w' ⟨rfl,⟨nd,rfl⟩⟩; refine ⟨_,rfl,?_⟩)|((with_reducible refine AQ (f:=11) rfl ?_); refine Ag (some 17) rfl rfl Tryd.func11 (by kernel_rfl) rfl #[.int .i64 1,.int .i64 80] rfl (by (try simp only [List.map_toArray,List.map_cons,List.map_nil]); first|done|rfl|(simp only [List.length_drop,List.length_take]; rfl)) ?_; (with_reducible refine (Ad.calls 1 80 t149 t150 t151 _ A2.out).mono ?_); rintro e w' ⟨rfl,⟨nd,rfl⟩⟩; refine ⟨_,rfl,?_⟩)|((with_reducible refine AQ (f:=32) rfl ?_); refine Ag (some 23) rfl rfl Tryd.func32 (by kernel_rfl) rfl #[.agg #[.int .i64 3,.int .i64 (-4),.int .i64 1],.int .i64 96] rfl (by (try simp only [List.map_toArray,List.map_cons,List.map_nil]); first|done|rfl|(simp only [List.length_drop,List.length_take]; rfl)) ?_; (with_reducible refine (Aa.calls k 3 (-4) 1 96 t152 t153 _ A3.out (Tab.below HTB.out (by repeat (first|(with_reducible first|exact HB.out|apply AI|apply AG|apply AH)|exact HB.out)))).mono ?_); rintro e w30 ⟨rfl,hb⟩; refine ⟨_,rfl,?_⟩; have n0_:=Aside0.mk (AP (by repeat (first|(with_reducible first|exact HB.out|apply AI|apply AG|apply AH)|exact HB.out)) hb); clear HB; have HB:=n0_; clear n0_; (try clear hb); (try clear hb2); (try clear hk); (try clear hi))|((with_reducible refine AQ (f:=13) rfl ?_); refine Ag (some 27) rfl rfl Tryd.func13 (by kernel_rfl) rfl #[.int .i64 96,.int .i64 0,.int .i64 96] rfl (by (try simp only [List.map_toArray,List.map_cons,List.map_nil]); first|done|rfl|(simp only [List.length_drop,List.length_take]; rfl)) ?_; (with_reducible refine (AU.calls k 96 0 96 t154 t155 _ A4.out).mono ?_); rintro e w' ⟨rfl,⟨nd,rfl⟩⟩; refine ⟨_,rfl,?_⟩))
  go_ret
  exact ⟨by first|rfl|(simp [AS,AR]<;>rfl)|(simp [*,AS,AR]<;>rfl),by repeat (first|(with_reducible first|exact HB.out|apply AI|apply AG|apply AH)|exact HB.out)⟩
def BE.f (l0:List (S33)):Option ((List (S33))):=if (l0.length:Int)=0 then (some ([]:List (S33))) else ((some (([]:List (S33)):List (S33))).bind fun y158=>(if y158.length+l0.length<5864062014805 then (some (y158++l0)) else (none)))
set_option maxHeartbeats 8000000 in
theorem BE.calls (A0:Option Addr) (c0:Nat) (l0:List (S33)) (r:List (S33)) (w:World) (hr0:Kd.C k33 w A0 l0.length l0) (hc0:l0.length≤c0) (h:BE.f l0=some r):
  Calls Tryd.prog 43 #[.slice A0 l0.length c0] w fun e w'=>∃v0_:Value,e= .returned (v0_)∧Kd.R k33 33 w' w.heap.size (fun _=>True) v0_ r∧Below w.heap.size w w':=by
 have HR0:=Aside0.mk hr0
 have HC0:=Aside0.mk hc0
 clear hr0 hc0
 have HB:=Aside0.mk (Below.refl w.heap.size w)
 have H:(if (l0.length:Int)=0 then (some ([]:List (S33))) else ((some (([]:List (S33)):List (S33))).bind fun y158=>(if y158.length+l0.length<5864062014805 then (some (y158++l0)) else (none))))=some r:=h
 clear h
 cases A0 with
 | none=>
  have h0_:l0.length=0:=by
   rcases Nat.eq_zero_or_pos l0.length with h_|h_
   ·exact h_
   ·obtain ⟨ad_,e_,_⟩:=HR0.out.2.2 h_; cases e_
  rw [if_pos (by omega)] at H
  have hen:=fun w=>Lib.run_eql_slice_nil (P:=Tryd.prog) w 46 33 none l0.length c0 0 0 Tryd.underlying46
  simp only [Option.isNone_none] at hen
  clear h0_
  obtain rfl:=Option.some.inj H
  go_enter Tryd.func43,Tryd.ntmps43
  go_wp2
  go_ret
  exact ⟨_,by first|rfl|(simp [AS,AR]<;>rfl)|(simp [*,AS,AR]<;>rfl),by first|exact Kd.R_nil _ _ _ _ _|exact Kd.N_nil _ _ _ _ _|exact Kd.V_nil _ _ _ _ _|exact Kd.Q_nil _ _ _ _ _|exact Kd.S_nil _ _ _ _ _,by repeat (first|(with_reducible first|exact HB.out|apply AI|apply AG|apply AH)|exact HB.out)⟩
 | some ad_=>
  have hen:=fun w=>Lib.run_eql_slice_nil (P:=Tryd.prog) w 46 33 (some ad_) l0.length c0 0 0 Tryd.underlying46
  simp only [Option.isNone_some] at hen
  replace H:(if ([]:List S33).length+l0.length<5864062014805 then (some (([]:List S33)++l0)) else (none))=some r:=by
   by_cases c_:(l0.length:Int)=0
   ·rw [if_pos c_] at H
    have e_:l0=[]:=List.eq_nil_of_length_eq_zero (by omega)
    rw [e_]
    exact H
   ·rw [if_neg c_] at H; exact H
  obtain ⟨y158,hy158⟩:∃y_:List (S33),y_=(([]:List (S33))):=⟨_,rfl⟩
  replace H:(if y158.length+l0.length<5864062014805 then (some (y158++l0)) else (none))=some r:=by first|(rw [hy158]; with_reducible exact H)|(have H2_:=(Option.bind_some _ _).symm.trans H; rw [hy158]; with_reducible exact H2_)|(have H2_:=(Option.bind_some _ _).symm.trans H; with_reducible exact H2_)|with_reducible exact H|(rw [hy158]; exact H)|exact H
  have Ny158:=Aside0.mk hy158
  clear hy158
  by_cases c3:y158.length+l0.length<5864062014805
  ·rw [if_pos c3] at H
   have LMc3:=Aside0.mk c3
   clear c3
   obtain ⟨y161,hy161⟩:∃y_:List (S33),y_=(y158++l0):=⟨_,rfl⟩
   replace H:(some y161)=some r:=by first|(rw [hy161]; with_reducible exact H)|(have H2_:=(Option.bind_some _ _).symm.trans H; rw [hy161]; with_reducible exact H2_)|(have H2_:=(Option.bind_some _ _).symm.trans H; with_reducible exact H2_)|with_reducible exact H|(rw [hy161]; exact H)|exact H
   have Ny161:=Aside0.mk hy161
   clear hy161
   obtain rfl:=Option.some.inj H
   go_enter Tryd.func43,Tryd.ntmps43
   go_wp2_with (first|((with_reducible refine Ar (N:=5) rfl ?_); refine Kd.R_lit k33 _ 33 ?hg (N:=5) ?hd (xs:=([]:List (S33))) (inner:=[]) (ok:=fun _=>True) (okp:=fun _=>True) ?hr ?hp (fun _ hk=>hk) trivial (Below.refl _ _) (Nat.le_refl _) (by simp) ?_; (case hd=>rfl); (case hg=>rfl); (case hr=>first|(go_simp; done)|(go_simp; rfl)); (case hp=>exact (Reps.none _ _)); intro v159 w4 ho5 hb hg_ hnew_; clear hg_ hnew_; (first|rw [←Ny158.out] at ho5|(simp only [Int.reduceToNat] at ho5; rw [←Ny158.out] at ho5)); have n0_:=Aside0.mk (Kd.R_lower ho5 (AT (by repeat (first|(with_reducible first|exact HB.out|apply AI|apply AG|apply AH)|exact HB.out)))); have n1_:=Aside0.mk (AP (by repeat (first|(with_reducible first|exact HB.out|apply AI|apply AG|apply AH)|exact HB.out)) hb); clear HB; have HO160:=n0_; have HB:=n1_; clear n0_ n1_; clear hb ho5)|((with_reducible refine Bh (b:= .append) (xs:= #[.tmp 5,.tmp 6]) rfl ?_); at_builtin; refine Kd.R_append_rows k33 (w0:=w) w.heap.size rfl (.tmp 5) (.tmp 6) 46 33 (.agg #[(.int .i64 0),(.int .i64 0),(.int .i64 0)]) 24 rfl Tryd.underlying46 info33 rfl (by decide) (by omega) v159 y158 l0 _ _ _ (fun _=>True) (fun _=>False) rfl rfl ?aO ?aR (fun _ _ h=>h) (fun _ h=>h.elim) ?aF ?aB ?aS ?aL ?_; (case aR=>repeat (first|exact (Kd.C_below HR0.out HB.out)|(with_reducible refine Kd.C_alloc ?_ _)|(with_reducible refine Kd.C_drewN ?_ _)|(with_reducible refine Kd.C_drew ?_))); (case aB=>exact (by repeat (first|(with_reducible first|exact HB.out|apply AI|apply AG|apply AH)|exact HB.out))); (case aF=>exact (fun _ _=>trivial)); (case aO=>exact (by (with_reducible repeat (first|apply Kd.R_alloc|apply Kd.R_drewN|apply Kd.R_drew)); exact HO160.out)); (case aS=>exact (AT (by repeat (first|(with_reducible first|exact HB.out|apply AI|apply AG|apply AH)|exact HB.out)))); (case aL=>have:=LMc3.out; omega); intro v162 w6 ho hb hg hat; rw [←Ny161.out] at ho; have n0_:=Aside0.mk (hb); have n1_:=Aside0.mk (ho); clear HB; clear HO160; have HB:=n0_; have HO163:=n1_; clear n0_ n1_; clear ho hb hg hat))
   go_ret
   exact ⟨_,by first|rfl|(simp [AS,AR]<;>rfl)|(simp [*,AS,AR]<;>rfl),by (with_reducible repeat (first|apply Kd.R_alloc|apply Kd.R_drewN|apply Kd.R_drew)); exact HO163.out,by repeat (first|(with_reducible first|exact HB.out|apply AI|apply AG|apply AH)|exact HB.out)⟩
  ·rw [if_neg c3] at H
   exact absurd H (by simp)
def ky (l:List S33) (i:Nat):Int:=StSort.keyI (l.getD i z33).f0 (l.getD i z33).f1
def BI (l:List S33) (n:Nat):List Nat:=(List.range n).mergeSort (fun i j=>decide (ky l i<ky l j∨(ky l i=ky l j∧i≤j)))
def BT (l:List S33):List S33:=(BI l l.length).map fun i=>l.getD i z33
def C4 (l:List S33):Prop:=l.length≤100∧∀x∈l,(0≤x.f0∧x.f0≤1000∧ -1000≤x.f1∧x.f1≤1000∧(x.f1=0→0<x.f0))
instance (l:List S33):Decidable (C4 l):=by unfold C4; infer_instance
def BO.f (l0:List S33):Option (List S33):=if C4 l0 then some (BT l0) else none
theorem BP (l:List S33) (n:Nat):(BI l n).length=n:=by unfold BI; rw [List.length_mergeSort,List.length_range]
theorem Bq {l r:List S33} (h:BO.f l=some r):r.length=l.length:=by
 unfold BO.f at h
 by_cases hk:C4 l
 ·rw [if_pos hk] at h; cases h
  unfold BT; rw [List.length_map,BP]
 ·rw [if_neg hk] at h; cases h
def encS (l:List S33) {n:Nat} (x:Fin (n+1)):List Value:=[.int .i64 (l.getD x.val z33).f0,.int .i64 (l.getD x.val z33).f1,.int .i64 (l.getD x.val z33).f2]
def keyS (l:List S33) {n:Nat} (x:Fin (n+1)):Int:=ky l x.val
open Go.Sort in
theorem Dr {l:List S33} {n:Nat} {d':Array (Fin (n+1))} (hp:StSort.Post (keyS l) (fun x=>x.val) 0 (n+1) (List.finRange (n+1)).toArray d') (hs:d'.size=n+1):
  d'.toList.map (fun x=>x.val)=BI l (n+1):=by
 have hfr:(List.finRange (n+1)).map (fun x=>x.val)=List.range (n+1):=by
  apply List.ext_getElem
  ·simp
  ·intro i h1 h2; simp
 have hperm:d'.toList.Perm (List.finRange (n+1)):=by
  have h:=hp.1.2.2
  have e1:d'.extract 0 (n+1)=d':=by have:=Array.extract_size (xs:=d'); rwa [hs] at this
  have e2:(List.finRange (n+1)).toArray.extract 0 (n+1)=(List.finRange (n+1)).toArray:=by
   have:=Array.extract_size (xs:=(List.finRange (n+1)).toArray)
   simpa using this
  rw [e1,e2] at h
  exact h
 unfold BI
 rw [←hfr]
 refine List.Perm.eq_of_pairwise (le:=fun i j=>decide (ky l i<ky l j∨(ky l i=ky l j∧i≤j))=true) ?_ ?_ ?_ ((hperm.map _).trans (List.mergeSort_perm _ _).symm)
 ·intro a b _ _ h1 h2
  simp only [decide_eq_true_eq] at h1 h2
  omega
 ·rw [List.pairwise_map,List.pairwise_iff_getElem]
  intro i j hi hj hij
  have hi':i<d'.size:=by simpa using hi
  have hj':j<d'.size:=by simpa using hj
  have:=hp.2 i j (Nat.zero_le _) hij (by omega)
  rw [getElem!_pos d' j hj',getElem!_pos d' i hi'] at this
  unfold StSort.R keyS at this
  have this:ky l d'[i].val<ky l d'[j].val∨ky l d'[i].val=ky l d'[j].val∧d'[i].val<d'[j].val:=this
  simp only [decide_eq_true_eq]
  simp only [Array.getElem_toList]
  omega
 ·refine List.pairwise_mergeSort ?_ ?_ _
  ·intro a b c h1 h2
   simp only [decide_eq_true_eq] at h1 h2 ⊢
   omega
  ·intro a b
   simp only [Bool.or_eq_true,decide_eq_true_eq]
   omega
open Go.Sort in
theorem CW {α:Type} [Inhabited α] {enc:α→List Value} (hk:∀x,(enc x).length=3) (d:Array α) {j:Nat} (hj:j<d.size):((flatK enc 3 d).toList.drop (j*3)).take 3=enc d[j]! :=by
 apply List.ext_getElem?
 intro c
 rw [List.getElem?_take,List.getElem?_drop,Array.getElem?_toList]
 by_cases hc:c<3
 ·have ht:j*3+c<d.size*3:=by omega
  rw [if_pos hc,Array.getElem?_eq_getElem (by rw [size_flatK]; exact ht),←getElem!_pos (flatK enc 3 d) (j*3+c) (by rw [size_flatK]; exact ht),get_flatK _ _ _ _ ht,show (j*3+c)/3=j by omega,show (j*3+c)%3=c by omega,getElem!_pos _ c (by rw [hk]; exact hc),←List.getElem?_eq_getElem]
 ·rw [if_neg hc,List.getElem?_eq_none (by rw [hk]; omega)]
open Go.Sort in
theorem flat_of {α:Type} [Inhabited α] {enc:α→List Value} (hk:∀x,(enc x).length=3) (d:Array α) {cs:List Value} (hl:cs.length=d.size*3) (h:∀j,j<d.size→(cs.drop (j*3)).take 3=enc d[j]!):cs=(flatK enc 3 d).toList:=by
 apply List.ext_getElem?
 intro t
 by_cases ht:t<d.size*3
 ·have e:∀xs:List Value,xs[t]? =((xs.drop (t/3*3)).take 3)[t%3]? :=fun xs=>by
   rw [List.getElem?_take,if_pos (by omega),List.getElem?_drop,show t/3*3+t%3=t by omega]
  rw [e cs,e (flatK enc 3 d).toList,h _ (by omega),CW hk d (by omega)]
 ·rw [List.getElem?_eq_none (by omega),List.getElem?_eq_none (by simp; omega)]
open Go.Shelf Go.Lib Go.Sort in
set_option maxHeartbeats 4000000 in
theorem Dq (p:Option Addr) (cap:Nat) (fv:Value) (w:World):Calls Tryd.prog 44 #[.slice p 0 cap,fv] w fun e w'=>e= .returned (.tuple #[])∧w'=w:=by
 have hi:∀W,Calls Tryd.prog 51 #[.slice p 0 cap,.int .i64 0,.int .i64 0,fv] W fun e w'=>e= .returned (.tuple #[])∧w'=W:=fun W=>by
  go_enter Tryd.func51,Tryd.ntmps51
  go_wp2
  refine wp_loop_rounds 1 ?_
  rw [rounds_succ]
  go_wp2
  go_end0
  exact ⟨rfl,rfl⟩
 have hs:Calls Tryd.prog 49 #[.slice p 0 cap,.int .i64 0,fv] w fun e w'=>e= .returned (.tuple #[])∧w'=w:=by
  go_enter Tryd.func49,Tryd.ntmps49
  go_wp2
  refine wp_loop_rounds 1 ?_
  rw [rounds_succ]
  go_wp2_with (go_at_call 51; refine (hi _).mono ?_; rintro e w' ⟨rfl,rfl⟩)
  refine wp_loop_rounds 1 ?_
  rw [rounds_succ]
  go_wp2
  go_end0
  exact ⟨rfl,rfl⟩
 go_enter Tryd.func44,Tryd.ntmps44
 go_wp2_with (go_at_call 49; refine hs.mono ?_; rintro e w' ⟨rfl,rfl⟩)
 go_end0
 exact ⟨rfl,rfl⟩
theorem szk33:k33.sz=3:=rfl
open Go.Shelf Go.Lib Go.Sort in
theorem DD {w W:World} {ok:Nat→Prop} {v:Value} {l:List S33} {r:List S33} (hR:k33.R 33 W w.heap.size ok v l) (hB:Below w.heap.size w W) (h:BO.f l=some r):
  Calls Tryd.prog 44 #[v,.func (.func 45) #[] #[]] W fun e w'=>e= .returned (.tuple #[])∧k33.R 33 w' w.heap.size ok v r∧Below w.heap.size w w':=by
 unfold BO.f at h
 by_cases hk:C4 l
 ·rw [if_pos hk] at h
  cases h
  obtain ⟨h100,hv⟩:=hk
  rcases Nat.eq_zero_or_pos l.length with hn|hn0
  ·have hl:l=[]:=List.eq_nil_of_length_eq_zero hn
   subst hl
   obtain ⟨p,c,rfl⟩:=Kd.R_slice hR
   refine (Dq p c _ W).mono ?_
   rintro e w' ⟨rfl,rfl⟩
   have e:BT []=[]:=by unfold BT BI; simp
   rw [e]
   exact ⟨rfl,hR,hB⟩
  ·obtain ⟨n,hn⟩:∃n,l.length=n+1:=⟨l.length-1,by omega⟩
   obtain ⟨hok,inner,⟨hil,ho⟩,hrl,hrc⟩:=hR
   rcases ho with ⟨_,h0⟩|⟨g,cap,cur,rfl,hg,hgc,hcap,hmax,hcs,hct⟩
   ·omega
   have hrl:inner.length=l.length*3:=hrl
   have hct:List.take (l.length*3) cur.toList=inner:=hct
   obtain ⟨d0,hd0⟩:∃d:Array (Fin (n+1)),d=(List.finRange (n+1)).toArray:=⟨_,rfl⟩
   have hds:d0.size=n+1:=by rw [hd0]; simp
   have hdp:∀p,p<n+1→(d0[p]!).val=p:=fun p hp=>by subst hd0; rw [getElem!_pos _ p (by simpa using hp)]; simp
   have hk3:∀x:Fin (n+1),(encS l x).length=3:=fun x=>rfl
   have hin:inner=(flatK (encS l) 3 d0).toList:=flat_of hk3 d0 (by rw [hrl,hds,hn]) fun j hj=>by
    have hj':j<l.length:=by omega
    have e1:=Dh (hrc j _ (List.getElem?_eq_getElem hj'))
    have e1:(inner.drop (j*3)).take 3=_:=e1
    rw [e1]
    unfold encS
    rw [hdp j (by omega),List.getD_eq_getElem?_getD,List.getElem?_eq_getElem hj']
    rfl
   have hglt:g<W.heap.size:=by
    rcases Nat.lt_or_ge g W.heap.size with h'|h'
    ·exact h'
    ·rw [Array.getElem?_eq_none h'] at hgc; cases hgc
   have hH:HoldsK (encS l) 3 W g 0 d0:=fun t ht=>by
    have ht':t<(n+1)*3:=by rw [size_flatK,hds] at ht; exact ht
    refine ⟨?_,by simp [World.frozen?,hgc]⟩
    have e1:(cur.toList.take (l.length*3))[t]? =inner[t]? :=by rw [←hct]
    rw [List.getElem?_take,if_pos (by omega),Array.getElem?_toList,hin,Array.getElem?_toList,Array.getElem?_eq_getElem ht,←getElem!_pos _ t ht] at e1
    simp only [World.cell?,hgc,Nat.zero_add,Option.isSome_none,Bool.false_eq_true,if_false]
    rw [e1]; rfl
   have hput:∀(mm:Nat) (os:Array Obj) (dk:Array (Fin (n+1))),Below w.heap.size w (sortWorldK (encS l) 3 W g 0 mm dk os):=fun mm os dk=>by
    have b1:Below w.heap.size w (putRowK (encS l) 3 (Sort.ahead W mm) g 0 dk):=below_putRow hB hg
    exact b1.trans (below_grow _ (putRowK (encS l) 3 (Sort.ahead W mm) g 0 dk) b1.size 0 os)
   have hko:∀x:Fin (n+1),StSort.KOk (l.getD x.val z33).f0 (l.getD x.val z33).f1:=fun x=>by
    have hx:x.val<l.length:=by have:=x.isLt; omega
    rw [List.getD_eq_getElem?_getD,List.getElem?_eq_getElem hx]
    obtain ⟨a1,a2,a3,a4,a5⟩:=hv _ (List.getElem_mem hx)
    exact ⟨a1,a2,a3,a4,a5⟩
   have hcmp:CmpLays Tryd.prog 45 #[] (encS l) 3 (StSort.cfs (keyS l)) g 0 (n+1) W:=fun mm os dk hs x y=>
    cmp_g (l.getD x.val z33).f0 (l.getD x.val z33).f1 (l.getD x.val z33).f2 (l.getD y.val z33).f0 (l.getD y.val z33).f1 (l.getD y.val z33).f2 (hko x) (hko y) _
   have R1:RowK (encS l) 3 W g 0 d0:=⟨hk3,fun x u hu=>by
    simp only [encS,List.mem_cons,List.not_mem_nil,or_false] at hu
    rcases hu with rfl|rfl|rfl<;>rfl,hH,hglt⟩
   rw [hn]
   refine (StSort.sortStable (encS l) 3 Tryd.sizeOf33 (keyS l) (fun x=>x.val) 45 #[] g 0 cap (n+1) d0 W (enters_of Tryd.func45 (by kernel_rfl) rfl) hcmp R1 hds (by omega) hdp).mono ?_
   rintro e w' ⟨rfl,d',hP,hs,mm,os,rfl⟩
   refine ⟨rfl,?_,hput mm os d'⟩
   rw [hd0] at hP
   have he:=Dr hP hs
   have hr:∀j,j<n+1→(BT l)[j]? =some (l.getD (d'[j]!).val z33):=fun j hj=>by
    unfold BT
    rw [hn,←he,List.map_map,List.getElem?_map,Array.getElem?_toList,Array.getElem?_eq_getElem (by omega),getElem!_pos d' j (by omega)]
    rfl
   have hrlen:(BT l).length=n+1:=by unfold BT; rw [List.length_map,BP,hn]
   refine ⟨hok,(flatK (encS l) 3 d').toList,⟨by simp [hs,hrlen,szk33],.inr ⟨g,cap,putCells id 0 (flatK (encS l) 3 d') cur,by rw [hrlen],hg,?_,by omega,hmax,by simpa [putCells] using hcs,?_⟩⟩,by simp [hs,hrlen,szk33],fun j p hj=> ?_⟩
   ·unfold sortWorldK
    rw [Go.Sort.heap_grow_old _ _ (by rw [size_putRowK]; exact hglt)]
    simp [putRowK,putRow,mapBlock,Sort.ahead,Array.getElem?_modify,hgc,onCells]
   ·apply List.ext_getElem?
    intro t
    have hcs':cur.size=cap*3:=hcs
    rw [hrlen]
    show ((putCells id 0 (flatK (encS l) 3 d') cur).toList.take ((n+1)*3))[t]? =_
    rw [List.getElem?_take,Array.getElem?_toList,Array.getElem?_toList]
    by_cases ht:t<(n+1)*3
    ·have htc:t<cur.size:=by omega
     simp only [if_pos ht,putCells,Array.getElem?_mapIdx,Array.getElem?_eq_getElem htc,Option.map_some]
     rw [if_pos (by simp [hs]; omega),Array.getElem?_eq_getElem (by simp [hs]; omega)]
     simp [getElem!_pos,hs,show t<(n+1)*3 by omega]
    ·rw [if_neg ht,Array.getElem?_eq_none (by simp [hs]; omega)]
   ·have hj':j<n+1:=by have:=(List.getElem?_eq_some_iff.mp hj).1; omega
    rw [hr j hj'] at hj
    injection hj with hj
    subst hj
    have e:=CW hk3 d' (j:=j) (by omega)
    show k33.M _ _ _ _ (((flatK (encS l) 3 d').toList.drop (j*3)).take 3)
    rw [e]
    exact k33_mkM _ _ _ _
 ·rw [if_neg hk] at h; cases h
end Go.Proofs.YtgfjidlckocflaaDoor.PAll
end
section
namespace Go.Proofs.YtgfjidlckocflaaDoor.PAll
set_option maxRecDepth 100000
open Go.RowKit Go.Proofs.YtgfjidlckocflaaDoorW.PrintWords Go.Proofs.YtgfjidlckocflaaDoorW.PrintLast Go.Proofs.YtgfjidlckocflaaDoorW.PrintMore
attribute [local go_sem] BM BK BV BU BD BC BL BJ
mutual
def Ap.l0:Nat→List (S33)→Int→List (S33)→Int→Int→Option (List ByteArray×Int)
 |0,_,_,_,_,_=>none
 |k+1,x0,x1,x19,x20,x21=>if x21<x20 then (if 0≤x21 then (if x21<(x19.length:Int) then ((Aa.f k ((AW x19 x21).f0) ((AW x19 x21).f1) ((AW x19 x21).f2) x1).bind fun bt166=>(if bt166.2=0 then (Ap.l0 k x0 x1 x19 x20 (wrap64 (x21+1))) else (some (([]:List ByteArray),bt166.2)))) else (none)) else (none)) else ((BE.f x0).bind fun t168=>((BO.f t168).bind fun t171=>(Ap.l1 k x1 ([]:List ByteArray) t171 (t171.length:Int) 0)))
def Ap.l1:Nat→Int→List ByteArray→List (S33)→Int→Int→Option (List ByteArray×Int)
 |0,_,_,_,_,_=>none
 |k+1,x1,x11,x39,x40,x41=>if x41<x40 then (if 0≤x41 then (if x41<(x39.length:Int) then ((Aa.f k ((AW x39 x41).f0) ((AW x39 x41).f1) ((AW x39 x41).f2) x1).bind fun bt176=>(if x11.length<8796093022208 then (Ap.l1 k x1 (x11++[bt176.1]) x39 x40 (wrap64 (x41+1))) else (none))) else (none)) else (none)) else (some (x11,0))
end
def Ap.f (k:Nat) (l0:List (S33)) (a1:Int):Option (List ByteArray×Int):=if (l0.length:Int)>100 then (some (([]:List ByteArray),3)) else (Ap.l0 k l0 a1 l0 (l0.length:Int) 0)
set_option maxHeartbeats 8000000 in
theorem Ap.calls (k:Nat) (A0:Option Addr) (c0:Nat) (l0:List (S33)) (a1:Int) (r1:List ByteArray) (r2:Int) (w:World) (hr0:Kd.C k33 w A0 l0.length l0) (hc0:l0.length≤c0) (h:Ap.f k l0 a1=some (r1,r2)) (ht:Tab w):
  Calls Tryd.prog 29 #[.slice A0 l0.length c0,.int .i64 a1] w fun e w'=>∃v0_:Value,e= .returned (.tuple #[v0_,.int .i64 r2])∧Kd.R Kd.string 9 w' w.heap.size (fun _=>True) v0_ r1∧Below w.heap.size w w':=by
 have HTB:=Aside0.mk ht
 clear ht
 have hu33:=Tryd.underlying33
 have HR0:=Aside0.mk hr0
 have HC0:=Aside0.mk hc0
 clear hr0 hc0
 have HB:=Aside0.mk (Below.refl w.heap.size w)
 have H:(if (l0.length:Int)>100 then (some (([]:List ByteArray),3)) else (Ap.l0 k l0 a1 l0 (l0.length:Int) 0))=some (r1,r2):=h
 clear h
 by_cases c3:(l0.length:Int)>100
 ·rw [if_pos c3] at H
  have c3b0:decide (100<(l0.length:Int))=true:=decide_eq_true c3
  have c3b1:decide (100<l0.length)=true:=decide_eq_true (by omega)
  clear c3
  simp only [Option.some.injEq,Prod.mk.injEq] at H
  obtain ⟨rfl,rfl⟩:=H
  go_enter Tryd.func29,Tryd.ntmps29
  go_wp2
  go_ret2
  exact ⟨_,by first|rfl|(simp [AS,AR]<;>rfl)|(simp [*,AS,AR]<;>rfl),by first|exact Kd.R_nil _ _ _ _ _|exact Kd.N_nil _ _ _ _ _|exact Kd.V_nil _ _ _ _ _|exact Kd.Q_nil _ _ _ _ _|exact Kd.S_nil _ _ _ _ _,by repeat (first|(with_reducible first|exact HB.out|apply AI|apply AG|apply AH)|exact HB.out)⟩
 ·rw [if_neg c3] at H
  have c3b0:decide (100<(l0.length:Int))=false:=decide_eq_false c3
  have c3b1:decide (100<l0.length)=false:=decide_eq_false (by omega)
  clear c3
  have H':=Aside0.mk H
  clear H
  go_enter Tryd.func29,Tryd.ntmps29
  go_wp2
  go_loopg [21] k (fun kq v21 w'=>∃(x21_1:Int),v21= .int .i64 x21_1∧Aside0 (Ap.l0 kq l0 a1 l0 (l0.length:Int) x21_1=some (r1,r2))∧Aside0 (kq≤k)∧Aside0 (Below w.heap.size w w'))
  case atStart=>exact ⟨(0),(by first|rfl|(simp; done)|(simp [*]; done)),H',⟨Nat.le_refl _⟩,⟨by repeat (first|(with_reducible first|exact HB.out|apply AI|apply AG|apply AH)|exact HB.out)⟩⟩
  case round=>
   clear H'
   try clear c2
   try clear p2
   try clear c3
   try clear c3b0
   try clear c3b1
   obtain ⟨x21_1,rfl,HA,HK1,HB⟩:=hrel
   cases gk with
   |zero=>exact absurd HA.out (by simp [Ap.l0])
   | succ k1 =>
    have H:=HA.out
    clear HA
    simp only [Ap.l0] at H
    by_cases c4:x21_1<(l0.length:Int)
    ·rw [if_pos c4] at H
     have c4b0:decide (x21_1<(l0.length:Int))=true:=decide_eq_true c4
     clear c4
     by_cases c5:0≤x21_1
     ·rw [if_pos c5] at H
      have c5b0:decide (0≤x21_1)=true:=decide_eq_true c5
      clear c5
      by_cases c6:x21_1<(l0.length:Int)
      ·rw [if_pos c6] at H
       have c6b0:decide (x21_1<(l0.length:Int))=true:=decide_eq_true c6
       clear c6
       replace H:=Option.bind_eq_some_iff.mp H
       obtain ⟨⟨t166,t167⟩,A70,H⟩:=H
       replace H:(if t167=0 then (Ap.l0 k1 l0 a1 l0 (l0.length:Int) (wrap64 (x21_1+1))) else (some (([]:List ByteArray),t167)))=some (r1,r2):=H
       have A7:=Aside0.mk A70
       clear A70
       by_cases c8:t167=0
       ·rw [if_pos c8] at H
        have c8b0:(t167==0)=true:=beq_iff_eq.mpr c8
        have c8b1:(t167 !=0)=false:=bne_eq_false_iff_eq.mpr c8
        clear c8
        have H':=Aside0.mk H
        clear H
        have p164:0≤(x21_1:Int):=of_decide_eq_true (by first|(with_reducible assumption)|assumption)
        have q164:x21_1<(l0.length:Int):=of_decide_eq_true (by first|(with_reducible assumption)|assumption)
        obtain ⟨ad164,e164,hx164_0,hx164_1,hx164_2⟩:=BG HR0.out x21_1 p164 q164
        cases e164
        replace hx164_0:=(HB.out.cell (World.block_lt_of_cell? w _ hx164_0)).trans hx164_0
        replace hx164_1:=(HB.out.cell (World.block_lt_of_cell? w _ hx164_1)).trans hx164_1
        replace hx164_2:=(HB.out.cell (World.block_lt_of_cell? w _ hx164_2)).trans hx164_2
        replace p164:=eq_true p164
        replace q164:=eq_true q164
        go_wp2_with (first|((with_reducible refine Ar (N:=7) rfl ?_); refine Am ?hg (N:=7) ?hd (cs:= #[.int .i64 0,.int .i64 0,.int .i64 0]) (t:=33) ?hr ?_; (case hd=>rfl); (case hg=>rfl); (case hr=>first|(go_simp; done)|(go_simp; rfl)); intro gb165 hg w9 hbox hb; have n0_:=Aside0.mk (AP (by repeat (first|(with_reducible first|exact HB.out|apply AI|apply AG|apply AH)|exact HB.out)) hb); have n1_:=Aside0.mk (hbox); have n2_:=Aside0.mk ((by rw [hg]; exact (AT (by repeat (first|(with_reducible first|exact HB.out|apply AI|apply AG|apply AH)|exact HB.out))):w.heap.size≤gb165)); have n3_:=Aside0.mk ((by rw [hg]; exact (AT (by repeat (first|(with_reducible first|exact HB.out|apply AI|apply AG|apply AH)|exact HB.out))):w.heap.size≤gb165)); clear HB; have HB:=n0_; have BK165:=n1_; have GW165:=n2_; have GE165:=n3_; clear n0_ n1_ n2_ n3_; clear hb hbox hg; have hcz10_0:w9.cell? ⟨gb165,0,none⟩=some (.int .i64 0):=(AJ BK165.out 0).trans rfl; have hcz10_1:w9.cell? ⟨gb165,1,none⟩=some (.int .i64 0):=(AJ BK165.out 1).trans rfl; have hcz10_2:w9.cell? ⟨gb165,2,none⟩=some (.int .i64 0):=(AJ BK165.out 2).trans rfl; have hfz10_0:=AN BK165.out 0; have hfz10_1:=AN BK165.out 1; have hfz10_2:=AN BK165.out 2)|((with_reducible refine AQ (f:=32) rfl ?_); refine Ag (some 28) rfl rfl Tryd.func32 (by kernel_rfl) rfl #[.agg #[.int .i64 ((AW l0 x21_1).f0),.int .i64 ((AW l0 x21_1).f1),.int .i64 ((AW l0 x21_1).f2)],.int .i64 a1] rfl (by (try simp only [List.map_toArray,List.map_cons,List.map_nil]); first|done|rfl|(simp only [List.length_drop,List.length_take]; rfl)) ?_; (with_reducible refine (Aa.calls k1 ((AW l0 x21_1).f0) ((AW l0 x21_1).f1) ((AW l0 x21_1).f2) a1 t166 t167 _ A7.out (Tab.below HTB.out (by repeat (first|(with_reducible first|exact HB.out|apply AI|apply AG|apply AH|refine AV ?_ GE165.out)|exact HB.out)))).mono ?_); rintro e w11 ⟨rfl,hb⟩; refine ⟨_,rfl,?_⟩; have n0_:=Aside0.mk (Ai (g:=gb165) (o:= .cells #[.int .i64 ((AW l0 x21_1).f0),.int .i64 ((AW l0 x21_1).f1),.int .i64 ((AW l0 x21_1).f2)] 33 (0,0)) (by (with_reducible repeat (first|refine Ab ?_ _|refine AZ ?_|refine Ac ?_ _)); refine Bd (cs:= #[.int .i64 ((AW l0 x21_1).f0),.int .i64 ((AW l0 x21_1).f1),.int .i64 0]) ?_ 2 _ rfl; (with_reducible repeat (first|refine Ab ?_ _|refine AZ ?_|refine Ac ?_ _)); refine Bd (cs:= #[.int .i64 ((AW l0 x21_1).f0),.int .i64 0,.int .i64 0]) ?_ 1 _ rfl; (with_reducible repeat (first|refine Ab ?_ _|refine AZ ?_|refine Ac ?_ _)); refine Bd (cs:= #[.int .i64 0,.int .i64 0,.int .i64 0]) ?_ 0 _ rfl; (with_reducible repeat (first|refine Ab ?_ _|refine AZ ?_|refine Ac ?_ _)); exact BK165.out) hb); have n1_:=Aside0.mk (AP (by repeat (first|(with_reducible first|exact HB.out|apply AI|apply AG|apply AH|refine AV ?_ GE165.out)|exact HB.out)) hb); clear BK165; clear HB; have BK165:=n0_; have HB:=n1_; clear n0_ n1_; (try clear hb); (try clear hb2); (try clear hk); (try clear hi)))
        go_roundg k1
        case measure=>have:=HK1.out; omega
        case rel=>exact ⟨(wrap64 (x21_1+1)),(by first|rfl|(simp; done)|(simp [*]; done)),H',⟨by have:=HK1.out; omega⟩,⟨by repeat (first|(with_reducible first|exact HB.out|apply AI|apply AG|apply AH|refine AV ?_ GE165.out)|exact HB.out)⟩⟩
       ·rw [if_neg c8] at H
        have c8b0:(t167==0)=false:=beq_eq_false_iff_ne.mpr c8
        have c8b1:(t167 !=0)=true:=bne_iff_ne.mpr c8
        simp only [Option.some.injEq,Prod.mk.injEq] at H
        obtain ⟨rfl,rfl⟩:=H
        have p164:0≤(x21_1:Int):=of_decide_eq_true (by first|(with_reducible assumption)|assumption)
        have q164:x21_1<(l0.length:Int):=of_decide_eq_true (by first|(with_reducible assumption)|assumption)
        obtain ⟨ad164,e164,hx164_0,hx164_1,hx164_2⟩:=BG HR0.out x21_1 p164 q164
        cases e164
        replace hx164_0:=(HB.out.cell (World.block_lt_of_cell? w _ hx164_0)).trans hx164_0
        replace hx164_1:=(HB.out.cell (World.block_lt_of_cell? w _ hx164_1)).trans hx164_1
        replace hx164_2:=(HB.out.cell (World.block_lt_of_cell? w _ hx164_2)).trans hx164_2
        replace p164:=eq_true p164
        replace q164:=eq_true q164
        go_wp2_with (first|((with_reducible refine Ar (N:=7) rfl ?_); refine Am ?hg (N:=7) ?hd (cs:= #[.int .i64 0,.int .i64 0,.int .i64 0]) (t:=33) ?hr ?_; (case hd=>rfl); (case hg=>rfl); (case hr=>first|(go_simp; done)|(go_simp; rfl)); intro gb165 hg w12 hbox hb; have n0_:=Aside0.mk (AP (by repeat (first|(with_reducible first|exact HB.out|apply AI|apply AG|apply AH)|exact HB.out)) hb); have n1_:=Aside0.mk (hbox); have n2_:=Aside0.mk ((by rw [hg]; exact (AT (by repeat (first|(with_reducible first|exact HB.out|apply AI|apply AG|apply AH)|exact HB.out))):w.heap.size≤gb165)); have n3_:=Aside0.mk ((by rw [hg]; exact (AT (by repeat (first|(with_reducible first|exact HB.out|apply AI|apply AG|apply AH)|exact HB.out))):w.heap.size≤gb165)); clear HB; have HB:=n0_; have BK165:=n1_; have GW165:=n2_; have GE165:=n3_; clear n0_ n1_ n2_ n3_; clear hb hbox hg; have hcz13_0:w12.cell? ⟨gb165,0,none⟩=some (.int .i64 0):=(AJ BK165.out 0).trans rfl; have hcz13_1:w12.cell? ⟨gb165,1,none⟩=some (.int .i64 0):=(AJ BK165.out 1).trans rfl; have hcz13_2:w12.cell? ⟨gb165,2,none⟩=some (.int .i64 0):=(AJ BK165.out 2).trans rfl; have hfz13_0:=AN BK165.out 0; have hfz13_1:=AN BK165.out 1; have hfz13_2:=AN BK165.out 2)|((with_reducible refine AQ (f:=32) rfl ?_); refine Ag (some 28) rfl rfl Tryd.func32 (by kernel_rfl) rfl #[.agg #[.int .i64 ((AW l0 x21_1).f0),.int .i64 ((AW l0 x21_1).f1),.int .i64 ((AW l0 x21_1).f2)],.int .i64 a1] rfl (by (try simp only [List.map_toArray,List.map_cons,List.map_nil]); first|done|rfl|(simp only [List.length_drop,List.length_take]; rfl)) ?_; (with_reducible refine (Aa.calls k1 ((AW l0 x21_1).f0) ((AW l0 x21_1).f1) ((AW l0 x21_1).f2) a1 t166 t167 _ A7.out (Tab.below HTB.out (by repeat (first|(with_reducible first|exact HB.out|apply AI|apply AG|apply AH|refine AV ?_ GE165.out)|exact HB.out)))).mono ?_); rintro e w14 ⟨rfl,hb⟩; refine ⟨_,rfl,?_⟩; have n0_:=Aside0.mk (Ai (g:=gb165) (o:= .cells #[.int .i64 ((AW l0 x21_1).f0),.int .i64 ((AW l0 x21_1).f1),.int .i64 ((AW l0 x21_1).f2)] 33 (0,0)) (by (with_reducible repeat (first|refine Ab ?_ _|refine AZ ?_|refine Ac ?_ _)); refine Bd (cs:= #[.int .i64 ((AW l0 x21_1).f0),.int .i64 ((AW l0 x21_1).f1),.int .i64 0]) ?_ 2 _ rfl; (with_reducible repeat (first|refine Ab ?_ _|refine AZ ?_|refine Ac ?_ _)); refine Bd (cs:= #[.int .i64 ((AW l0 x21_1).f0),.int .i64 0,.int .i64 0]) ?_ 1 _ rfl; (with_reducible repeat (first|refine Ab ?_ _|refine AZ ?_|refine Ac ?_ _)); refine Bd (cs:= #[.int .i64 0,.int .i64 0,.int .i64 0]) ?_ 0 _ rfl; (with_reducible repeat (first|refine Ab ?_ _|refine AZ ?_|refine Ac ?_ _)); exact BK165.out) hb); have n1_:=Aside0.mk (AP (by repeat (first|(with_reducible first|exact HB.out|apply AI|apply AG|apply AH|refine AV ?_ GE165.out)|exact HB.out)) hb); clear BK165; clear HB; have BK165:=n0_; have HB:=n1_; clear n0_ n1_; (try clear hb); (try clear hb2); (try clear hk); (try clear hi)))
        go_ret2
        exact ⟨_,by first|rfl|(simp [AS,AR]<;>rfl)|(simp [*,AS,AR]<;>rfl),by first|exact Kd.R_nil _ _ _ _ _|exact Kd.N_nil _ _ _ _ _|exact Kd.V_nil _ _ _ _ _|exact Kd.Q_nil _ _ _ _ _|exact Kd.S_nil _ _ _ _ _,by repeat (first|(with_reducible first|exact HB.out|apply AI|apply AG|apply AH|refine AV ?_ GE165.out)|exact HB.out)⟩
      ·rw [if_neg c6] at H
       exact absurd H (by simp)
     ·rw [if_neg c5] at H
      exact absurd H (by simp)
    ·rw [if_neg c4] at H
     have c4b0:decide (x21_1<(l0.length:Int))=false:=decide_eq_false c4
     clear c4
     replace H:=Option.bind_eq_some_iff.mp H
     obtain ⟨t168,A150,H⟩:=H
     replace H:((BO.f t168).bind fun t171=>(Ap.l1 k1 a1 ([]:List ByteArray) t171 (t171.length:Int) 0))=some (r1,r2):=H
     have A15:=Aside0.mk A150
     clear A150
     replace H:=Option.bind_eq_some_iff.mp H
     obtain ⟨t171,A160,H⟩:=H
     replace H:(Ap.l1 k1 a1 ([]:List ByteArray) t171 (t171.length:Int) 0)=some (r1,r2):=H
     have A16:=Aside0.mk A160
     clear A160
     have H':=Aside0.mk H
     clear H
     go_wp2_with (first|((with_reducible refine AQ (f:=43) rfl ?_); refine Ag (some 36) rfl rfl Tryd.func43 (by kernel_rfl) rfl #[.slice A0 l0.length c0] rfl (by (try simp only [List.map_toArray,List.map_cons,List.map_nil]); first|done|rfl|(simp only [List.length_drop,List.length_take]; rfl)) ?_; (with_reducible refine (BE.calls _ _ l0 t168 _ ?side1 ?side2 A15.out).mono ?_); (case side1=>repeat (first|exact (Kd.C_below HR0.out HB.out)|(with_reducible refine Kd.C_alloc ?_ _)|(with_reducible refine Kd.C_drewN ?_ _)|(with_reducible refine Kd.C_drew ?_))); (case side2=>exact HC0.out); rintro e w17 ⟨v169,rfl,ho0,hb⟩; refine ⟨_,rfl,?_⟩; have n0_:=Aside0.mk (Kd.R_lower ho0 (AT (by repeat (first|(with_reducible first|exact HB.out|apply AI|apply AG|apply AH)|exact HB.out)))); have n1_:=Aside0.mk (AP (by repeat (first|(with_reducible first|exact HB.out|apply AI|apply AG|apply AH)|exact HB.out)) hb); clear HB; have HO170:=n0_; have HB:=n1_; clear n0_ n1_; (try clear hb); (try clear hb2); (try clear hk); (try clear hi); (try clear ho0); obtain ⟨Ao18,co18,eo18⟩:=Kd.R_slice HO170.out; subst eo18)|((with_reducible refine AQ (f:=44) rfl ?_); refine Ag (some 38) rfl rfl Tryd.func44 (by kernel_rfl) rfl #[.slice Ao18 t168.length co18,.func (.func 45) #[] #[]] rfl (by (try simp only [List.map_toArray,List.map_cons,List.map_nil]); first|done|rfl) ?_; refine (DD (w:=w) (by (with_reducible repeat (first|apply Kd.R_alloc|apply Kd.R_drewN|apply Kd.R_drew)); exact HO170.out) (by repeat (first|(with_reducible first|exact HB.out|apply AI|apply AG|apply AH)|exact HB.out)) A16.out).mono ?_; rintro e w19 ⟨rfl,ho0,hb⟩; refine ⟨_,rfl,?_⟩; have hlen_:=Bq A16.out; have n1_:=Aside0.mk ho0; have n3_:=Aside0.mk hb; clear HO170; clear HB; have HO173:=n1_; have HB:=n3_; clear n1_ n3_; clear ho0 hb; obtain ⟨Ao20,co20,eo20⟩:=Kd.R_slice HO173.out; injection eo20 with f1_ f2_ f3_; have f4_:=f1_.symm; have f5_:=f3_.symm; clear f1_ f2_ f3_; subst f4_; subst f5_; rw [←hlen_] at HO173 ⊢; clear hlen_))
     go_loopg [11,41] k1 (fun kq v11 v41 w'=>∃(x11_2:List ByteArray) (x41_2:Int),v41= .int .i64 x41_2∧Aside0 (Ap.l1 kq a1 x11_2 t171 (t171.length:Int) x41_2=some (r1,r2))∧Aside0 (kq≤k1)∧Aside0 (Kd.R Kd.string 9 w' w.heap.size (fun _=>True) v11 x11_2)∧Aside0 (Kd.R k33 33 w' w.heap.size (fun _=>True) (.slice Ao20 t171.length co20) t171)∧Aside0 (Below w.heap.size w w'))
     case atStart=>exact ⟨(([]:List ByteArray)),(0),(by first|rfl|(simp; done)|(simp [*]; done)),H',⟨Nat.le_refl _⟩,⟨by first|exact Kd.R_nil _ _ _ _ _|exact Kd.N_nil _ _ _ _ _|exact Kd.V_nil _ _ _ _ _|exact Kd.Q_nil _ _ _ _ _|exact Kd.S_nil _ _ _ _ _⟩,⟨by (with_reducible repeat (first|apply Kd.R_alloc|apply Kd.R_drewN|apply Kd.R_drew)); exact Kd.R_mono HO173.out (fun _ hk=>trivial)⟩,⟨by repeat (first|(with_reducible first|exact HB.out|apply AI|apply AG|apply AH)|exact HB.out)⟩⟩
     case round=>
      clear H'
      try clear p1
      try clear q1
      try clear hx1
      try clear c2
      try clear p2
      try clear c3
      try clear c3b0
      try clear c3b1
      try clear c4
      try clear c4b0
      try clear c5
      try clear c5b0
      try clear c6
      try clear c6b0
      try clear p6
      try clear c8
      try clear c8b0
      try clear c8b1
      try clear p16
      try clear q16
      try clear hx16
      try clear hcz10_0
      try clear hcz10_1
      try clear hcz10_2
      try clear hcz13_0
      try clear hcz13_1
      try clear hcz13_2
      try clear hfz10_0
      try clear hfz10_1
      try clear hfz10_2
      try clear hfz13_0
      try clear hfz13_1
      try clear hfz13_2
      try clear hx164_0
      try clear hx164_1
      try clear hx164_2
      try clear p164
      try clear p2
      try clear q164
      obtain ⟨x11_2,x41_2,rfl,HA,HK2,HO_11,HO_39,HB⟩:=hrel
      cases gk with
      |zero=>exact absurd HA.out (by simp [Ap.l1])
      | succ k2 =>
       have H:=HA.out
       clear HA
       simp only [Ap.l1] at H
       by_cases c21:x41_2<(t171.length:Int)
       ·rw [if_pos c21] at H
        have c21b0:decide (x41_2<(t171.length:Int))=true:=decide_eq_true c21
        clear c21
        by_cases c22:0≤x41_2
        ·rw [if_pos c22] at H
         have c22b0:decide (0≤x41_2)=true:=decide_eq_true c22
         clear c22
         by_cases c23:x41_2<(t171.length:Int)
         ·rw [if_pos c23] at H
          have c23b0:decide (x41_2<(t171.length:Int))=true:=decide_eq_true c23
          clear c23
          replace H:=Option.bind_eq_some_iff.mp H
          obtain ⟨⟨t176,t177⟩,A240,H⟩:=H
          replace H:(if x11_2.length<8796093022208 then (Ap.l1 k2 a1 (x11_2++[t176]) t171 (t171.length:Int) (wrap64 (x41_2+1))) else (none))=some (r1,r2):=H
          have A24:=Aside0.mk A240
          clear A240
          by_cases c25:x11_2.length<8796093022208
          ·rw [if_pos c25] at H
           have LMc25:=Aside0.mk c25
           clear c25
           obtain ⟨y178,hy178⟩:∃y_:List ByteArray,y_=(x11_2++[t176]):=⟨_,rfl⟩
           replace H:(Ap.l1 k2 a1 y178 t171 (t171.length:Int) (wrap64 (x41_2+1)))=some (r1,r2):=by first|(rw [hy178]; with_reducible exact H)|(have H2_:=(Option.bind_some _ _).symm.trans H; rw [hy178]; with_reducible exact H2_)|(have H2_:=(Option.bind_some _ _).symm.trans H; with_reducible exact H2_)|with_reducible exact H|(rw [hy178]; exact H)|exact H
           have Ny178:=Aside0.mk hy178
           clear hy178
           have H':=Aside0.mk H
           clear H
           have p174:0≤(x41_2:Int):=of_decide_eq_true (by first|(with_reducible assumption)|assumption)
           have q174:x41_2<(t171.length:Int):=of_decide_eq_true (by first|(with_reducible assumption)|assumption)
           obtain ⟨ad174,e174,hx174_0,hx174_1,hx174_2⟩:=BG (Kd.R_reads' HO_39.out).2.2 x41_2 p174 q174
           cases e174
           replace p174:=eq_true p174
           replace q174:=eq_true q174
           go_wp2_with (first|((with_reducible refine Ar (N:=13) rfl ?_); refine Am ?hg (N:=13) ?hd (cs:= #[.int .i64 0,.int .i64 0,.int .i64 0]) (t:=33) ?hr ?_; (case hd=>rfl); (case hg=>rfl); (case hr=>first|(go_simp; done)|(go_simp; rfl)); intro gb175 hg w26 hbox hb; have n0_:=Aside0.mk (Kd.R_below (by (with_reducible repeat (first|apply Kd.R_alloc|apply Kd.R_drewN|apply Kd.R_drew)); exact HO_11.out) hb); have n1_:=Aside0.mk (Kd.R_below (Kd.R_elderB (by (with_reducible repeat (first|apply Kd.R_alloc|apply Kd.R_drewN|apply Kd.R_drew)); exact HO_39.out) gb175 (Nat.le_of_eq hg.symm)) hb); have n2_:=Aside0.mk (AP (by repeat (first|(with_reducible first|exact HB.out|apply AI|apply AG|apply AH)|exact HB.out)) hb); have n3_:=Aside0.mk (hbox); have n4_:=Aside0.mk ((by rw [hg]; exact (AT (by repeat (first|(with_reducible first|exact HB.out|apply AI|apply AG|apply AH)|exact HB.out))):w.heap.size≤gb175)); have n5_:=Aside0.mk ((by rw [hg]; exact (AT (by repeat (first|(with_reducible first|exact HB.out|apply AI|apply AG|apply AH)|exact HB.out))):w.heap.size≤gb175)); clear HO_11; clear HO_39; clear HB; have HO_11:=n0_; have HO_39:=n1_; have HB:=n2_; have BK175:=n3_; have GW175:=n4_; have GE175:=n5_; clear n0_ n1_ n2_ n3_ n4_ n5_; clear hb hbox hg; have hcz27_0:w26.cell? ⟨gb175,0,none⟩=some (.int .i64 0):=(AJ BK175.out 0).trans rfl; have hcz27_1:w26.cell? ⟨gb175,1,none⟩=some (.int .i64 0):=(AJ BK175.out 1).trans rfl; have hcz27_2:w26.cell? ⟨gb175,2,none⟩=some (.int .i64 0):=(AJ BK175.out 2).trans rfl; have hfz27_0:=AN BK175.out 0; have hfz27_1:=AN BK175.out 1; have hfz27_2:=AN BK175.out 2)|((with_reducible refine AQ (f:=32) rfl ?_); refine Ag (some 48) rfl rfl Tryd.func32 (by kernel_rfl) rfl #[.agg #[.int .i64 ((AW t171 x41_2).f0),.int .i64 ((AW t171 x41_2).f1),.int .i64 ((AW t171 x41_2).f2)],.int .i64 a1] rfl (by (try simp only [List.map_toArray,List.map_cons,List.map_nil]); first|done|rfl|(simp only [List.length_drop,List.length_take]; rfl)) ?_; (with_reducible refine (Aa.calls k2 ((AW t171 x41_2).f0) ((AW t171 x41_2).f1) ((AW t171 x41_2).f2) a1 t176 t177 _ A24.out (Tab.below HTB.out (by repeat (first|(with_reducible first|exact HB.out|apply AI|apply AG|apply AH|refine AV ?_ GE175.out)|exact HB.out)))).mono ?_); rintro e w28 ⟨rfl,hb⟩; refine ⟨_,rfl,?_⟩; have n0_:=Aside0.mk (Kd.R_below (by (with_reducible repeat (first|apply Kd.R_alloc|apply Kd.R_drewN|apply Kd.R_drew)); exact (Kd.R_mono (Kd.R_far (p:=⟨gb175,2,none⟩) (Kd.R_far (p:=⟨gb175,1,none⟩) (Kd.R_far (p:=⟨gb175,0,none⟩) (Kd.R_types HO_11.out BK175.out (by decide)) (fun _ hk=>hk.2) (.int .i64 ((AW t171 x41_2).f0))) (fun _ hk=>hk.2) (.int .i64 ((AW t171 x41_2).f1))) (fun _ hk=>hk.2) (.int .i64 ((AW t171 x41_2).f2))) (fun _ h_=>h_.1))) hb); have n1_:=Aside0.mk (Kd.R_below (by (with_reducible repeat (first|apply Kd.R_alloc|apply Kd.R_drewN|apply Kd.R_drew)); exact (Kd.R_mono (Kd.R_far (p:=⟨gb175,2,none⟩) (Kd.R_far (p:=⟨gb175,1,none⟩) (Kd.R_far (p:=⟨gb175,0,none⟩) (Kd.R_mono HO_39.out (fun k_ hk=>(⟨hk,hk.2⟩:_∧k_≠gb175))) (fun _ hk=>hk.2) (.int .i64 ((AW t171 x41_2).f0))) (fun _ hk=>hk.2) (.int .i64 ((AW t171 x41_2).f1))) (fun _ hk=>hk.2) (.int .i64 ((AW t171 x41_2).f2))) (fun _ h_=>h_.1))) hb); have n2_:=Aside0.mk (Ai (g:=gb175) (o:= .cells #[.int .i64 ((AW t171 x41_2).f0),.int .i64 ((AW t171 x41_2).f1),.int .i64 ((AW t171 x41_2).f2)] 33 (0,0)) (by (with_reducible repeat (first|refine Ab ?_ _|refine AZ ?_|refine Ac ?_ _)); refine Bd (cs:= #[.int .i64 ((AW t171 x41_2).f0),.int .i64 ((AW t171 x41_2).f1),.int .i64 0]) ?_ 2 _ rfl; (with_reducible repeat (first|refine Ab ?_ _|refine AZ ?_|refine Ac ?_ _)); refine Bd (cs:= #[.int .i64 ((AW t171 x41_2).f0),.int .i64 0,.int .i64 0]) ?_ 1 _ rfl; (with_reducible repeat (first|refine Ab ?_ _|refine AZ ?_|refine Ac ?_ _)); refine Bd (cs:= #[.int .i64 0,.int .i64 0,.int .i64 0]) ?_ 0 _ rfl; (with_reducible repeat (first|refine Ab ?_ _|refine AZ ?_|refine Ac ?_ _)); exact BK175.out) hb); have n3_:=Aside0.mk (AP (by repeat (first|(with_reducible first|exact HB.out|apply AI|apply AG|apply AH|refine AV ?_ GE175.out)|exact HB.out)) hb); clear HO_11; clear HO_39; clear BK175; clear HB; have HO_11:=n0_; have HO_39:=n1_; have BK175:=n2_; have HB:=n3_; clear n0_ n1_ n2_ n3_; (try clear hb); (try clear hb2); (try clear hk); (try clear hi))|((with_reducible refine Bh (b:= .append) (xs:= #[.tmp 51,.tmp 53]) rfl ?_); at_builtin; refine Kd.R_append Kd.string (w0:=w) w.heap.size rfl (.tmp 51) (.tmp 53) 47 9 (.string ⟨#[]⟩) 16 rfl Tryd.underlying47 info9 rfl (by decide) (by omega) u11 x11_2 t176 [.string t176] (fun _=>True) (fun _=>False) rfl rfl ?aP (fun _ hk=>hk.elim) ?aF ?aO ?aB ?aS ?aL ?_; (case aP=>exact rfl); (case aB=>exact (by repeat (first|(with_reducible first|exact HB.out|apply AI|apply AG|apply AH|refine AV ?_ GE175.out)|exact HB.out))); (case aF=>exact (fun _ _=>trivial)); (case aO=>exact (by (with_reducible repeat (first|apply Kd.R_alloc|apply Kd.R_drewN|apply Kd.R_drew)); exact HO_11.out)); (case aS=>exact (AT (by repeat (first|(with_reducible first|exact HB.out|apply AI|apply AG|apply AH|refine AV ?_ GE175.out)|exact HB.out)))); (case aL=>have:=LMc25.out; omega); intro v179 w29 ho hb hg hat; rw [←Ny178.out] at ho; have n0_:=Aside0.mk (Kd.R_over' (by (with_reducible repeat (first|apply Kd.R_alloc|apply Kd.R_drewN|apply Kd.R_drew)); exact HO_39.out) (Kd.R_typed (by (with_reducible repeat (first|apply Kd.R_alloc|apply Kd.R_drewN|apply Kd.R_drew)); exact HO_11.out)) (by decide) hg); have n1_:=Aside0.mk (Dk (g:=gb175) (o:= .cells #[.int .i64 ((AW t171 x41_2).f0),.int .i64 ((AW t171 x41_2).f1),.int .i64 ((AW t171 x41_2).f2)] 33 (0,0)) (by (with_reducible repeat (first|refine Ab ?_ _|refine AZ ?_|refine Ac ?_ _)); exact BK175.out) hg (Kd.R_ne HO_11.out BK175.out (by decide))); have n2_:=Aside0.mk (hb); have n3_:=Aside0.mk (ho); clear HO_39; clear BK175; clear HB; clear HO_11; have HO_39:=n0_; have BK175:=n1_; have HB:=n2_; have HO180:=n3_; clear n0_ n1_ n2_ n3_; clear ho hb hg hat))
           go_roundg k2
           case measure=>have:=HK1.out; have:=HK2.out; omega
           case rel=>exact ⟨(y178),(wrap64 (x41_2+1)),(by first|rfl|(simp; done)|(simp [*]; done)),H',⟨by have:=HK1.out; have:=HK2.out; omega⟩,⟨by (with_reducible repeat (first|apply Kd.R_alloc|apply Kd.R_drewN|apply Kd.R_drew)); exact HO180.out⟩,⟨by (with_reducible repeat (first|apply Kd.R_alloc|apply Kd.R_drewN|apply Kd.R_drew)); exact Kd.R_mono HO_39.out (fun _ hk=>trivial)⟩,⟨by repeat (first|(with_reducible first|exact HB.out|apply AI|apply AG|apply AH|refine AV ?_ GE175.out)|exact HB.out)⟩⟩
          ·rw [if_neg c25] at H
           exact absurd H (by simp)
         ·rw [if_neg c23] at H
          exact absurd H (by simp)
        ·rw [if_neg c22] at H
         exact absurd H (by simp)
       ·rw [if_neg c21] at H
        have c21b0:decide (x41_2<(t171.length:Int))=false:=decide_eq_false c21
        clear c21
        simp only [Option.some.injEq,Prod.mk.injEq] at H
        obtain ⟨rfl,rfl⟩:=H
        go_wp2
        go_ret2
        exact ⟨_,by first|rfl|(simp [AS,AR]<;>rfl)|(simp [*,AS,AR]<;>rfl),by (with_reducible repeat (first|apply Kd.R_alloc|apply Kd.R_drewN|apply Kd.R_drew)); exact HO_11.out,by repeat (first|(with_reducible first|exact HB.out|apply AI|apply AG|apply AH)|exact HB.out)⟩
def Af.f (a0:Int):Option (Int):=if a0<0 then (some (wrap64 (-a0))) else (some a0)
set_option maxHeartbeats 8000000 in
theorem Af.calls (a0:Int) (r:Int) (w:World) (h:Af.f a0=some r):
  Calls Tryd.prog 41 #[.int .i64 a0] w fun e w'=>e= .returned (.int .i64 r)∧Drawn0 w w':=by
 have H:(if a0<0 then (some (wrap64 (-a0))) else (some a0))=some r:=h
 clear h
 by_cases c2:a0<0
 ·rw [if_pos c2] at H
  have c2b0:decide (a0<0)=true:=decide_eq_true c2
  clear c2
  obtain rfl:=Option.some.inj H
  go_enter Tryd.func41,Tryd.ntmps41
  go_wp2
  go_ret
  exact ⟨by first|rfl|(simp; done)|(simp [*]; done),by repeat (first|exact Drawn0.refl _|apply Drawn0.step)⟩
 ·rw [if_neg c2] at H
  have c2b0:decide (a0<0)=false:=decide_eq_false c2
  clear c2
  obtain rfl:=Option.some.inj H
  go_enter Tryd.func41,Tryd.ntmps41
  go_wp2
  go_ret
  exact ⟨by first|rfl|(simp; done)|(simp [*]; done),by repeat (first|exact Drawn0.refl _|apply Drawn0.step)⟩
def Av.l0:Nat→Int→Int→Option (Int)
 |0,_,_=>none
 |k+1,x0,x1=>if x1>0 then (if x1=0 then (none) else (Av.l0 k x1 (Int.tmod x0 x1))) else (some x0)
def Av.f (k:Nat) (a0:Int) (a1:Int):Option (Int):=Av.l0 k a0 a1
set_option maxHeartbeats 8000000 in
theorem Av.calls (k:Nat) (a0:Int) (a1:Int) (r:Int) (w:World) (h:Av.f k a0 a1=some r):
  Calls Tryd.prog 42 #[.int .i64 a0,.int .i64 a1] w fun e w'=>e= .returned (.int .i64 r)∧Drawn0 w w':=by
 have H:(Av.l0 k a0 a1)=some r:=h
 clear h
 have H':=Aside0.mk H
 clear H
 go_enter Tryd.func42,Tryd.ntmps42
 go_wp2
 repeat (go_quiet (fail); try go_wp2)
 go_loopg [0,1] k (fun kq v0 v1 w'=>∃(x0_1:Int) (x1_1:Int),v0= .int .i64 x0_1∧v1= .int .i64 x1_1∧Aside0 (Av.l0 kq x0_1 x1_1=some r)∧Aside0 (kq≤k)∧Drawn0 w w')
 case atStart=>exact ⟨(a0),(a1),(by first|rfl|(simp; done)|(simp [*]; done)),(by first|rfl|(simp; done)|(simp [*]; done)),H',⟨Nat.le_refl _⟩,by repeat (first|exact Drawn0.refl _|apply Drawn0.step)⟩
 case round=>
  clear H'
  try clear p2
  obtain ⟨x0_1,x1_1,rfl,rfl,HA,HK1,⟨m1,rfl⟩⟩:=hrel
  cases gk with
  |zero=>exact absurd HA.out (by simp [Av.l0])
  | succ k1=>
   have H:=HA.out
   clear HA
   simp only [Av.l0] at H
   by_cases c3:x1_1>0
   ·rw [if_pos c3] at H
    have c3b0:decide (0<x1_1)=true:=decide_eq_true c3
    clear c3
    by_cases c4:x1_1=0
    ·rw [if_pos c4] at H
     exact absurd H (by simp)
    ·rw [if_neg c4] at H
     have c4b0:(x1_1==0)=false:=beq_eq_false_iff_ne.mpr c4
     have c4b1:(x1_1 !=0)=true:=bne_iff_ne.mpr c4
     have H':=Aside0.mk H
     clear H
     go_wp2
     repeat (go_quiet (fail); try go_wp2)
     go_roundg k1
     case measure=>have:=HK1.out; omega
     case rel=>exact ⟨(x1_1),(Int.tmod x0_1 x1_1),(by first|rfl|(simp; done)|(simp [*]; done)),(by first|rfl|(simp; done)|(simp [*]; done)),H',⟨by have:=HK1.out; omega⟩,by repeat (first|exact Drawn0.refl _|apply Drawn0.step)⟩
   ·rw [if_neg c3] at H
    have c3b0:decide (0<x1_1)=false:=decide_eq_false c3
    clear c3
    obtain rfl:=Option.some.inj H
    go_wp2
    repeat (go_quiet (fail); try go_wp2)
    go_ret
    exact ⟨by first|rfl|(simp; done)|(simp [*]; done),by repeat (first|exact Drawn0.refl _|apply Drawn0.step)⟩
end Go.Proofs.YtgfjidlckocflaaDoor.PAll
end
