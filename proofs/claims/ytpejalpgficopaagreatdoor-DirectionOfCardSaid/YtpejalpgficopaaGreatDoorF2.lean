/- A part of what the law's proof leans on. PACKED BY pack.py of this repo. -/
import Derived.Test.YtpejalpgficopaaGreatDoorF1
set_option linter.unusedVariables false
set_option linter.unusedSimpArgs false
set_option linter.unusedSectionVars false
set_option linter.defProp false
set_option maxRecDepth 100000
open Go.IntKind (i64 u64 u32)
section
namespace RX
open Go Go.RowKit
def FL (P:Program) (E:Env) (nm:Nat) (o:Oper) (T:List Value) (H:Heap):Option Rc:=
 match o.op with
 | .call c=>
  (match c.callee with
  | .value x=>
   (match ev T x with
   | .func (.func f) ⟨first⟩ ⟨cap⟩=>
    (match look E.spec f with
    |some s=>bif evOk T x&&c.args.toList.all (evOk T) then Jo nm s (first++c.args.toList.map (ev T)++cap) H else none
    |none=>none)
   |_=>none)
  |_=>effC P nm o T H)
 |_=>effC P nm o T H
theorem NP {P:Program} {E:Env} (hE:∀f s,look E.spec f=some s→SOK P f s) {o:Oper} {nm nx:Nat} {T:List Value} {H:Heap} (hn:nm+16≤nx) {rc:Rc} (h:FL P E nm o T H=some rc) (hneed:rc.need=true):Goes P o nm nx T H rc.r:=by
 unfold FL at h
 split at h
 ·rename_i c ho
  split at h
  ·rename_i x hc
   split at h
   ·rename_i f first cap hv
    split at h
    ·rename_i s hs
     cases hx:(evOk T x&&c.args.toList.all (evOk T)) with
     |false=>rw [hx] at h; simp at h
     | true=>
      rw [hx] at h
      simp only [cond_true] at h
      simp only [zB,List.all_eq_true] at hx
      exact Pv ho hc hx.1 hx.2 hv (hE f s hs) hn h hneed
    ·simp at h
   ·simp at h
  ·exact Qv hn h hneed
 ·exact Qv hn h hneed
def gdst (ops:List Oper) (j:Nat):Option Nat:=
 match ops[j]? with
 |some o=>o.dst
 |none=>none
theorem IT {g:Nat→Nat} {T:List Value} {nx:Nat} {a:Act} {all:List Oper} (tr:TRel g T nx a) {j d:Nat} {b:Bool} (hd:gdst all j=some d) (hb:nth T d= .bool b):yielded all.toArray a.tmps j=some b:=by
 have h1:((all.toArray[j]?).bind (·.dst))=some d:=by
  unfold gdst at hd
  split at hd
  ·rename_i o ho; simp [ho,hd]
  ·simp at hd
 have h2:a.tmps[d]? =some (.bool b):=by
  have:=tr.tm d (by rw [hb]; rfl)
  rw [hb] at this
  simp only [ren_bool,Array.getD_eq_getD_getElem?] at this
  cases ht:a.tmps[d]? with
  |none=>rw [ht] at this; simp [undef] at this
  |some v=>rw [ht] at this; simp only [Option.getD_some] at this; rw [this]
 unfold yielded
 rw [h1]
 simp [h2]
theorem HW {g:Nat→Nat} {T:List Value} {nx:Nat} {a:Act} {all:List Oper} (tr:TRel g T nx a) {j d:Nat} (hd:gdst all j=some d) (hb:∀b,nth T d≠ .bool b) (hgo:EX (nth T d)=false):yielded all.toArray a.tmps j=none:=by
 have h1:((all.toArray[j]?).bind (·.dst))=some d:=by
  unfold gdst at hd
  split at hd
  ·rename_i o ho; simp [ho,hd]
  ·simp at hd
 unfold yielded
 rw [h1]
 simp only [Option.bind_some]
 have h2:=tr.tm d hgo
 simp only [Array.getD_eq_getD_getElem?] at h2
 cases ht:a.tmps[d]? with
 |none=>rfl
 | some v=>
  rw [ht] at h2
  simp only [Option.getD_some] at h2
  cases v with
  | bool b=>
   exfalso
   generalize nth T d=u at h2 hb
   cases u with
   |bool b'=>exact hb b' rfl
   |pointer a=>rcases a with _|⟨b',o',_|s'⟩<;>simp at h2
   |slice a l c=>rcases a with _|⟨b',o',_|s'⟩<;>simp at h2
   |func fn f c=>obtain ⟨f⟩:=f; obtain ⟨c⟩:=c; simp at h2
   |agg c=>obtain ⟨c⟩:=c; simp at h2
   |tuple c=>obtain ⟨c⟩:=c; simp at h2
   |_=>simp [ren] at h2
  |_=>rfl
theorem FA {T:List Value} {d:Nat} {b:Bool} (h:nth T d= .bool b):setn T d (.bool b)=T:=by
 rw [FQ]
 rw [FI,List.getD_eq_getElem?_getD] at h
 cases ht:T[d]? with
 |none=>rw [ht] at h; simp [undef] at h
 | some v=>
  rw [ht] at h
  simp only [Option.getD_some] at h
  subst h
  apply List.ext_getElem?
  intro i
  rw [List.getElem?_set]
  split
  ·rename_i e; subst e
   have:=(List.getElem?_eq_some_iff.1 ht).1
   rw [if_pos this,ht]
  ·rfl
theorem PK {P:Program} {nm:Nat} {o:Oper} {T T':List Value} {H:Heap} (h:∀x∈o.op.operands.toList,ev T' x=ev T x):GU P nm o T' H=GU P nm o T H:=by
 have pairs:∀ps:Array (Nat×Operand),(∀x∈ps.toList.map (·.2),ev T' x=ev T x)→(ps.toList.map fun x=>(x.1,ev T' x.2))=(ps.toList.map fun x=>(x.1,ev T x.2)):=fun ps hp=>
  List.map_congr_left fun p hm=>by rw [hp p.2 (List.mem_map.2 ⟨p,hm,rfl⟩)]
 have lst:∀l:List Operand,(∀x∈l,ev T' x=ev T x)→l.map (ev T')=l.map (ev T):=fun l hl=>List.map_congr_left hl
 unfold GU
 rw [LI h]
 cases hall:o.op.operands.toList.all (evOk T) with
 |false=>rfl
 | true=>
  simp only [cond_true]
  split
  all_goals rename_i ho
  any_goals rfl
  any_goals simp only [ho,Op.operands] at h
  any_goals rw [h _ (by simp)]
  any_goals rw [h _ (by simp)]
  any_goals rw [h _ (by simp)]
  any_goals rw [pairs _ (by simpa using h)]
  ·rename_i f c
   rw [lst _ (fun x hx=>h x (by simp only [Array.toList_append,List.mem_append]; exact .inl hx)),lst _ (fun x hx=>h x (by simp only [Array.toList_append,List.mem_append]; exact .inr hx))]
  ·rename_i c
   split
   ·rename_i b hb
    simp only [Call.operands,hb] at h
    rw [lst _ (fun x hx=>h x (by simpa using hx))]
   ·rfl
theorem RG {P:Program} {E:Env} {nm:Nat} {o:Oper} {T T':List Value} {H:Heap} (h:∀x∈o.op.operands.toList,ev T' x=ev T x):FL P E nm o T' H=FL P E nm o T H:=by
 unfold FL
 split
 ·rename_i c ho
  split
  ·rename_i x hc
   have hx:ev T' x=ev T x:=h x (by simp [ho,Op.operands,Call.operands,hc])
   have ha:c.args.toList.map (ev T')=c.args.toList.map (ev T):=List.map_congr_left fun y hy=>h y (by simp [ho,Op.operands,Call.operands,hc]; exact .inr (by simpa using hy))
   rw [hx,ha,LH hx,LI (l:=c.args.toList) (fun y hy=>h y (by simp [ho,Op.operands,Call.operands,hc]; exact .inr (by simpa using hy)))]
  ·exact RE (PK h) h
 ·exact RE (PK h) h
theorem Q1 {P:Program} {H H':Heap} {t:TypeId} {v:Value} {rc:Rc} (h:HM P H t v=some rc) (hh:∀n∈rc.r.rs,look H' n=look H n):HM P H' t v=some rc:=by
 unfold HM at h ⊢
 split at h
 ·rename_i b off
  split at h
  ·rename_i u hu
   have:=Rc.of_inv h; subst this
   have hb:=hh b (by simp)
   unfold JB at hu
   simp only [JB,hb,hu,Rc.of]
  ·rename_i hn
   have hrs:rc.r.rs=[b]:=by
    unfold PB at h
    split at h
    ·injection h with h; subst h; rfl
    ·simp at h
   rw [hrs] at hh
   have hb:=hh b (by simp)
   have h2:JB P H' t b off=none:=by
    unfold JB at hn ⊢
    rw [hb]; exact hn
   rw [h2]
   unfold PB at h ⊢
   rw [hb]
   exact h
 ·simp at h
theorem OD {P:Program} {H H':Heap} {t:TypeId} {v y:Value} {rc:Rc} (h:H3 P H t y v=some rc) (hh:∀n∈rc.r.rs,look H' n=look H n):H3 P H' t y v=some rc:=by
 unfold H3 at h ⊢
 split at h
 ·rename_i b off
  split at h
  ·rename_i C ty n hl hs
   cases hc:(Nat.beq (E0 y).length n&&(E0 y).all HO) with
   |false=>rw [hc] at h; simp at h
   | true=>
    rw [hc] at h
    simp only [cond_true] at h
    split at h
    ·rename_i C' hp
     have:=Rc.of_inv h; subst this
     have hb:=hh b (by simp)
     simp only [hb,hl,hs,hc,cond_true,hp,Rc.of]
    ·simp at h
  ·rename_i k xs ty n hl hs
   split at h
   ·rename_i k' v'
    cases hc:(kbeq k k'&&Nat.beq n 1) with
    |false=>rw [hc] at h; simp at h
    | true=>
     rw [hc] at h
     simp only [cond_true,zS] at h
     subst h
     have hb:=hh b (by simp)
     simp only [hb,hl,hs,hc,cond_true]
   ·simp at h
  ·simp at h
 ·simp at h
theorem PL {P:Program} {nm:Nat} {o:Oper} {T:List Value} {H H':Heap} {rc:Rc} (h:GU P nm o T H=some rc) (hh:∀n∈rc.r.rs,look H' n=look H n):GU P nm o T H'=some rc:=by
 unfold GU at h ⊢
 cases hall:o.op.operands.toList.all (evOk T) with
 |false=>rw [hall] at h; simp at h
 | true=>
  rw [hall] at h
  simp only [cond_true] at h ⊢
  split at h
  all_goals rename_i ho
  any_goals exact h
  ·exact Q1 h hh
  ·exact OD h hh
theorem R4 {H H':Heap} :∀ {ns:List Nat},(∀n∈ns,look H' n=look H n)→getB H' ns=getB H ns
 |[],_=>rfl
 |n::r,h=>by simp only [getB,h n (by simp),R4 (ns:=r) (fun m hm=>h m (by simp [hm]))]
theorem Q6 {nm:Nat} {s:HSpec} {vs:List Value} {H:Heap} {rc:Rc} (h:Jo nm s vs H=some rc):rc.r.rs=dedup (vs.filterMap ptrN):=by
 unfold Jo at h
 cases h1:vs.all Ni with
 |false=>rw [h1] at h; simp at h
 | true=>
  rw [h1] at h
  simp only [cond_true] at h
  split at h
  ·rename_i bl hb
   cases h2:bl.all Blk.clo with
   |false=>rw [h2] at h; simp at h
   | true=>
    rw [h2] at h
    simp only [cond_true] at h
    split at h
    ·rename_i n v bl' hs
     cases h3:(clo 8 v&&GA bl bl'&&bl'.all Blk.clo) with
     | false=>
      rw [h3] at h
      simp only [cond_false] at h
      cases h4:(okN bl'.length 8 v&&H8 bl bl'&&bl'.all Blk.clo&&Nat.ble bl'.length (bl.length+16)) with
      |false=>rw [h4] at h; simp at h
      | true=>
       rw [h4] at h
       simp only [cond_true,zS] at h
       subst h; rfl
     | true=>
      rw [h3] at h
      simp only [cond_true,zS] at h
      subst h; rfl
    ·simp at h
  ·simp at h
theorem RH {P:Program} {E:Env} {nm:Nat} {o:Oper} {T:List Value} {H H':Heap} {rc:Rc} (h:FL P E nm o T H=some rc) (hh:∀n∈rc.r.rs,look H' n=look H n):FL P E nm o T H'=some rc:=by
 unfold FL at h ⊢
 split at h
 ·rename_i c ho
  split at h
  ·rename_i x hc
   split at h
   ·rename_i f first cap hv
    split at h
    ·rename_i s hs
     cases hx:(evOk T x&&c.args.toList.all (evOk T)) with
     |false=>rw [hx] at h; simp at h
     | true=>
      rw [hx] at h
      simp only [cond_true] at h ⊢
      have hrs:=Q6 h
      rw [hrs] at hh
      unfold Jo at h ⊢
      rw [R4 hh]
      exact h
    ·simp at h
   ·simp at h
  ·exact RF (fun _ h1 h2=>PL h1 h2) h hh
 ·exact RF (fun _ h1 h2=>PL h1 h2) h hh
def IM:Rec:=⟨undef,[],[]⟩
def one (P:Program) (E:Env) (all:List Oper) (nm:Nat) (o:Oper) (T:List Value) (H:Heap):Option Rec:=
 match o.guard with
 |none=>(match FL P E nm o T H with|some rc=>bif rc.need then some rc.r else none|none=>none)
 | some (j,want)=>
  match gdst all j with
  | some d=>
   (match nth T d with
   | .bool b=>bif b==want then (match FL P E nm o T H with|some rc=>bif rc.need then some rc.r else none|none=>none) else some IM
   |_=>bif EX (nth T d) then none else some IM)
  |none=>none
def looks (all:List Oper) (o:Oper):List Nat:=
 (o.op.operands.toList.filterMap fun x=>match x with| .tmp t=>some t|_=>none)++(match o.guard with|some (j,_)=>(match gdst all j with|some d=>[d]|none=>[])|none=>[])
theorem R9 {all:List Oper} {o:Oper} {T T':List Value} (h:∀t∈looks all o,nth T' t=nth T t):∀x∈o.op.operands.toList,ev T' x=ev T x:=by
 intro x hx
 cases x with
 |tmp t=>exact h t (List.mem_append_left _ (List.mem_filterMap.2 ⟨.tmp t,hx,rfl⟩))
 |_=>rfl
theorem Ja {P:Program} {E:Env} {all:List Oper} {nm:Nat} {o:Oper} {T T':List Value} {H H':Heap} {r:Rec} (h:one P E all nm o T H=some r) (ht:∀t∈looks all o,nth T' t=nth T t) (hh:∀n∈r.rs,look H' n=look H n):
  one P E all nm o T' H'=some r:=by
 have key:(match FL P E nm o T H with|some rc=>bif rc.need then some rc.r else none|none=>none)=some r→(match FL P E nm o T' H' with|some rc=>bif rc.need then some rc.r else none|none=>none)=some r:=by
  intro h
  split at h
  ·rename_i rc hrc
   cases hn:rc.need with
   |false=>rw [hn] at h; simp at h
   | true=>
    rw [hn] at h
    simp only [cond_true,zS] at h
    subst h
    have:=RH (H':=H') hrc hh
    rw [←RG (T':=T') (R9 ht)] at this
    rw [this]
    simp [hn]
  ·simp at h
 unfold one at h ⊢
 split at h
 ·exact key h
 ·rename_i j want hg
  split at h
  ·rename_i d hd
   have hd':nth T' d=nth T d:=ht d (List.mem_append_right _ (by simp [hg,hd]))
   simp only [hd']
   split at h
   ·rename_i b hb
    cases hw:(b==want) with
    |false=>rw [hw] at h; simpa using h
    |true=>rw [hw] at h; exact key h
   ·exact h
  ·simp at h
structure En where
 i:Nat
 o:Oper
 r:Rec
def heq (H H':Heap):Prop:=∀n,look H n=look H' n
def Run (P:Program) (E:Env) (all:List Oper) (base:Nat):List En→List Value→Heap→List Value→Heap→Prop
 |[],T,H,T',H'=>T=T'∧heq H H'
 |e::l,T,H,T',H'=>one P E all (base+16*e.i) e.o T H=some e.r∧Run P E all base l (putT T e.o.dst e.r.v) (app e.r.ws H) T' H'
theorem L9 {H H':Heap} (h:heq H H'):∀(ws:List (Nat×Blk)),heq (app ws H) (app ws H'):=by
 intro ws
 induction ws generalizing H H' with
 |nil=>exact h
 | cons x r ih=>
  refine ih (H:=upd H x.1 x.2) (H':=upd H' x.1 x.2) fun n=> ?_
  rw [Em,Em,h n]
theorem Run.congr {P:Program} {E:Env} {all:List Oper} {base:Nat} :∀ {l:List En} {T:List Value} {H H2:Heap} {T':List Value} {H':Heap},Run P E all base l T H T' H'→heq H H2→Run P E all base l T H2 T' H'
 |[],T,H,H2,T',H',h,e=>⟨h.1,fun n=>(e n).symm.trans (h.2 n)⟩
 |x::l,T,H,H2,T',H',h,e=>⟨Ja h.1 (fun _ _=>rfl) (fun n _=>(e n).symm),Run.congr h.2 (L9 e x.r.ws)⟩
structure Indep (all:List Oper) (a b:En):Prop where
 ab:∀d,a.o.dst=some d→d ∉ looks all b.o
 ba:∀d,b.o.dst=some d→d ∉ looks all a.o
 dd:∀d,a.o.dst=some d→b.o.dst≠some d
 wr:∀x∈a.r.ws,x.1 ∉ b.r.rs
 rw':∀x∈b.r.ws,x.1 ∉ a.r.rs
 ww:∀x∈a.r.ws,∀y∈b.r.ws,x.1≠y.1
theorem NK {T:List Value} {d:Option Nat} {v:Value} {t:Nat} (h:d≠some t):nth (putT T d v) t=nth T t:=by
 cases d with
 |none=>rfl
 | some n=>
  have hn:n≠t:=fun e=>h (by rw [e])
  rw [FI,FI]
  simp only [putT,FQ,List.getD_eq_getElem?_getD]
  rw [List.getElem?_set_ne hn]
theorem Pe {T:List Value} {d e:Option Nat} {v u:Value} (h:∀n,d=some n→e≠some n):putT (putT T d v) e u=putT (putT T e u) d v:=by
 cases d with
 |none=>rfl
 | some n=>
  cases e with
  |none=>rfl
  | some m=>
   have hn:n≠m:=fun e=>h n rfl (by rw [e])
   simp only [putT,FQ]
   exact List.set_comm _ _ hn
theorem Ec {ws:List (Nat×Blk)} {H:Heap} {n:Nat} (h:∀x∈ws,x.1≠n):look (app ws H) n=look H n:=Gy ws H fun b hb=>h (n,b) hb rfl
theorem Rb {ws us:List (Nat×Blk)} {H:Heap} (h:∀x∈ws,∀y∈us,x.1≠y.1):heq (app us (app ws H)) (app ws (app us H)):=by
 have last:∀(ws:List (Nat×Blk)) (H H':Heap) (n:Nat),(∃x∈ws,x.1=n)→look (app ws H) n=look (app ws H') n:=by
  intro ws
  induction ws with
  |nil=>rintro H H' n ⟨x,hx,_⟩; cases hx
  | cons y r ih=>
   rintro H H' n ⟨x,hx,rfl⟩
   show look (app r (upd H y.1 y.2)) _=look (app r (upd H' y.1 y.2)) _
   by_cases hr:∃z∈r,z.1=x.1
   ·exact ih _ _ _ hr
   ·have hr':∀z∈r,z.1≠x.1:=fun z hz e=>hr ⟨z,hz,e⟩
    rw [Ec hr',Ec hr',Em,Em]
    cases hx with
    |head=>simp
    |tail _ hx=>exact absurd rfl (hr' x hx)
 intro n
 by_cases h1:∃x∈ws,x.1=n
 ·have h2:∀y∈us,y.1≠n:=fun y hy e=>by
   obtain ⟨x,hx,rfl⟩:=h1
   exact h x hx y hy e.symm
  rw [Ec h2]
  exact last ws _ _ n h1
 ·have h1':∀x∈ws,x.1≠n:=fun x hx e=>h1 ⟨x,hx,e⟩
  rw [Ec (ws:=ws) h1']
  by_cases h2:∃y∈us,y.1=n
  ·exact last us _ _ n h2
  ·have h2':∀y∈us,y.1≠n:=fun y hy e=>h2 ⟨y,hy,e⟩
   rw [Ec h2',Ec h2',Ec h1']
theorem Run.front {P:Program} {E:Env} {all:List Oper} {base:Nat} {x:En} {post:List En} :∀(pre:List En) {T:List Value} {H:Heap} {T':List Value} {H':Heap},Run P E all base (pre++x::post) T H T' H'→(∀y∈pre,Indep all y x)→
  one P E all (base+16*x.i) x.o T H=some x.r∧Run P E all base (pre++post) (putT T x.o.dst x.r.v) (app x.r.ws H) T' H'
 |[],T,H,T',H',h,_=>h
 | y ::pre,T,H,T',H',h,hi=>by
  obtain ⟨h1,h2⟩:=h
  obtain ⟨h3,h4⟩:=Run.front pre h2 (fun z hz=>hi z (by simp [hz]))
  have ind:=hi y (by simp)
  have hx:one P E all (base+16*x.i) x.o T H=some x.r:=
   Ja h3 (fun t ht=>(NK fun e=>ind.ab t e ht).symm) (fun n hn=>(Ec fun z hz e=>ind.wr z hz (e▸hn)).symm)
  refine ⟨hx,?_,?_⟩
  ·exact Ja h1 (fun t ht=>NK fun e=>ind.ba t e ht) (fun n hn=>Ec fun z hz e=>ind.rw' z hz (e▸hn))
  ·rw [Pe (fun n hn e=>ind.dd n e hn)]
   exact Run.congr h4 (Rb ind.ww)
def okV (p:Nat→Bool):Nat→Value→Bool
 |0,_=>false
 | n+1,v=>
  match v with
  | .bool _| .int _ _| .float _ _| .complex _ _ _| .string _| .nilFunc| .nilIface=>true
  | .pointer none=>true
  | .pointer (some a)=>p a.block
  | .slice none _ _=>true
  | .slice (some a) _ _=>p a.block
  | .agg ⟨cs⟩=>cs.all (okV p n)
  | .tuple ⟨cs⟩=>cs.all (okV p n)
  | .func _ ⟨f⟩ ⟨c⟩=>f.all (okV p n)&&c.all (okV p n)
  | .iface _ v=>okV p n v
  |_=>false
theorem Ft {p:Nat→Bool} {g g':Nat→Nat} (hp:∀n,p n=true→g n=g' n):∀(n:Nat) (v:Value),okV p n v=true→ren g v=ren g' v:=by
 intro n
 induction n with
 |zero=>intro v h; simp [okV] at h
 | succ n ih=>
  have hl:∀l:List Value,l.all (okV p n)=true→l.map (ren g)=l.map (ren g'):=fun l h=>by
   rw [List.all_eq_true] at h
   exact List.map_congr_left fun v hv=>ih v (h v hv)
  intro v h
  unfold okV at h
  split at h
  any_goals simp [ren]
  ·rename_i ad
   obtain ⟨b',o',_|s'⟩:=ad
   ·simp [hp _ h]
   ·simp
  ·rename_i ad _ _
   obtain ⟨b',o',_|s'⟩:=ad
   ·simp [hp _ h]
   ·simp
  any_goals rw [FR,FR]
  any_goals exact hl _ h
  ·simp only [zB] at h
   rw [FR,FR]
   exact ⟨hl _ h.1,hl _ h.2⟩
  ·exact ih _ h
  ·simp at h
def okB (p:Nat→Bool):Blk→Bool
 | .cs l _=>l.all (okV p 8)
 | .is _ _ _=>true
theorem Qc {p:Nat→Bool} {b:Blk} (h:okB p b=true) {g g':Nat→Nat} (hp:∀n,p n=true→g n=g' n):∀c∈b.cells,ren g c=ren g' c:=by
 cases b with
 | cs l t=>
  simp only [okB,List.all_eq_true] at h
  exact fun c hc=>Ft hp 8 c (h c hc)
 | is k xs t=>
  intro c hc
  obtain ⟨n,_,rfl⟩:=List.mem_map.1 hc
  simp
def Jq (e:Edge):Bool:=
 match e.ground with
 | .textOnly _=>false
 | .gcOnly _=>false
 |_=>true
theorem M9 (e:Edge):Jq e=Region.binds .any e:=by
 unfold Jq Region.binds
 cases e.ground<;>rfl
def GR (acc:List Nat):List Edge→Nat
 |[]=>0
 |e::r=>bif Jq e then (1<<<e.on)|||acc.getD e.on 0|||GR acc r else GR acc r
def masks:List Oper→List Nat→List Nat
 |[],acc=>acc
 |o::r,acc=>masks r (acc++[GR acc o.after.toList])
theorem Id {acc:List Nat} {j:Nat} :∀ {l:List Edge},(GR acc l).testBit j=true→∃e∈l,Jq e=true∧(e.on=j∨(acc.getD e.on 0).testBit j=true)
 |[],h=>by simp [GR] at h
 | e ::r,h=>by
  simp only [GR] at h
  cases hb:Jq e with
  | false=>
   rw [hb] at h
   obtain ⟨e',h1,h2⟩:=Id (l:=r) h
   exact ⟨e',by simp [h1],h2⟩
  | true=>
   rw [hb] at h
   simp only [cond_true,Nat.testBit_or,Bool.or_eq_true] at h
   rcases h with (h|h)|h
   ·refine ⟨e,by simp,hb,.inl ?_⟩
    rw [Nat.one_shiftLeft] at h
    simpa [Nat.testBit_two_pow] using h
   ·exact ⟨e,by simp,hb,.inr h⟩
   ·obtain ⟨e',h1,h2⟩:=Id (l:=r) h
    exact ⟨e',by simp [h1],h2⟩
theorem JA:∀(l:List Oper) (acc:List Nat),∃t,masks l acc=acc++t∧t.length=l.length
 |[],acc=>⟨[],by simp [masks],rfl⟩
 | o::r,acc=>by
  obtain ⟨t,h1,h2⟩:=JA r (acc++[GR acc o.after.toList])
  exact ⟨GR acc o.after.toList::t,by simp [masks,h1],by simp [h2]⟩
theorem L6:∀(l:List Oper) (acc:List Nat) (i:Nat) (o:Oper),l[i]? =some o→∃acc',(masks l acc).getD (acc.length+i) 0=GR acc' o.after.toList∧∀e,(acc'.getD e 0)=0∨acc'.getD e 0=(masks l acc).getD e 0
 |[],acc,i,o,h=>by simp at h
 | o' :: r,acc,i,o,h=>by
  cases i with
  | zero=>
   simp only [List.getElem?_cons_zero,zS] at h
   subst h
   obtain ⟨t,h1,_⟩:=JA r (acc++[GR acc o'.after.toList])
   refine ⟨acc,?_,fun e=> ?_⟩
   ·simp only [masks,h1,Nat.add_zero,List.append_assoc,List.getD_eq_getElem?_getD]
    rw [List.getElem?_append_right (by omega)]
    simp
   ·simp only [masks,h1,List.getD_eq_getElem?_getD,List.append_assoc]
    by_cases he:e<acc.length
    ·right
     rw [List.getElem?_append_left he]
    ·left
     rw [List.getElem?_eq_none (by omega)]
     rfl
  | succ i=>
   obtain ⟨acc',h1,h2⟩:=L6 r (acc++[GR acc o'.after.toList]) i o (by simpa using h)
   refine ⟨acc',?_,h2⟩
   rw [←h1]
   simp only [masks,List.length_append,List.length_cons,List.length_nil,Nat.zero_add]
   congr 1
   omega
def Kz (base mask i n:Nat):Bool:=Nat.blt n base||Nat.beq ((n-base)/16) i||mask.testBit ((n-base)/16)
def NE (base mask:Nat) (e:En):Bool:=
 okV (Kz base mask e.i) 8 e.r.v&&e.r.ws.all (fun x=>Kz base mask e.i x.1&&okB (Kz base mask e.i) x.2)&&e.o.after.toList.all (fun d=> !(Jq d)||Nat.blt d.on e.i)
def disj (l m:List Nat):Bool:=l.all fun n=> !(memN n m)
def Jb (all:List Oper) (a b:En):Bool:=
 (match a.o.dst with|some d=> !(memN d (looks all b.o))&&(match b.o.dst with|some d'=> !(Nat.beq d d')|none=>true)|none=>true)&&
 (match b.o.dst with|some d=> !(memN d (looks all a.o))|none=>true)&&
 (match a.r.ws,b.r.ws with
  |[],[]=>true
  |_,_=>disj (a.r.ws.map (·.1)) b.r.rs&&disj (b.r.ws.map (·.1)) a.r.rs&&disj (a.r.ws.map (·.1)) (b.r.ws.map (·.1)))
def I4 (all:List Oper) (mask:Nat) (e:En):List En→Bool
 |[]=>true
 |y::r=>(mask.testBit y.i||Jb all y e)&&I4 all mask e r
def NF (all:List Oper) (base:Nat) (ms:List Nat):List En→List En→Bool
 |_,[]=>true
 |done,e::r=>NE base (ms.getD e.i 0) e&&I4 all (ms.getD e.i 0) e done&&NF all base ms (e::done) r
section
variable (P:Program) (E:Env) {R:Type}
def runK (all :List Oper) (base:Nat):List Oper→Nat→List Value→Heap→List En→(List Value→Heap→List En→Option R)→Option R
 |[],_,T,H,L,k=>k T H L
 | o :: r, i,T,H,L,k=>
  match o.guard with
  | none=>
   (match FL P E (base+16*i) o T H with
   |some ⟨need,rr⟩=>bif need then fRm E rr fun r'=>fT (putT T o.dst r'.v) fun T'=>fH (app r'.ws H) fun H'=>fN (i+1) fun i'=>runK all base r i' T' H' (⟨i,o,r'⟩::L) k else none
   |none=>none)
  | some (j,want)=>
   match gdst all j with
   | some d=>
    (match nth T d with
    | .bool b=>
     bif b then
      bif want then
       (match FL P E (base+16*i) o (setn T d (.bool true)) H with
       |some ⟨need,rr⟩=>bif need then fRm E rr fun r'=>fT (putT (setn T d (.bool true)) o.dst r'.v) fun T'=>fH (app r'.ws H) fun H'=>fN (i+1) fun i'=>runK all base r i' T' H' (⟨i,o,r'⟩::L) k else none
       |none=>none)
      else (fT (putT (setn T d (.bool true)) o.dst undef) fun T'=>fN (i+1) fun i'=>runK all base r i' T' H (⟨i,o,IM⟩::L) k)
     else
      bif want then (fT (putT (setn T d (.bool false)) o.dst undef) fun T'=>fN (i+1) fun i'=>runK all base r i' T' H (⟨i,o,IM⟩::L) k)
      else
       (match FL P E (base+16*i) o (setn T d (.bool false)) H with
       |some ⟨need,rr⟩=>bif need then fRm E rr fun r'=>fT (putT (setn T d (.bool false)) o.dst r'.v) fun T'=>fH (app r'.ws H) fun H'=>fN (i+1) fun i'=>runK all base r i' T' H' (⟨i,o,r'⟩::L) k else none
       |none=>none)
    |_=>bif EX (nth T d) then none else fT (putT T o.dst undef) fun T'=>fN (i+1) fun i'=>runK all base r i' T' H (⟨i,o,IM⟩::L) k)
   |none=>none
def revE:List En→List En→List En
 |[],a=>a
 |e::r,a=>revE r (e::a)
def drawK (ops:List Oper) (S:St) (k:St→Option R):Option R:=
 runK P E ops S.nxt ops 0 S.tmps S.heap [] fun T H L=>
  bif NF ops S.nxt (masks ops []) [] (revE L []) then fN (S.nxt+16*ops.length) fun n=>k ⟨T,H,n⟩ else none
end
theorem Oq:∀(l a:List En),revE l a=l.reverse++a
 |[],a=>by simp [revE]
 |e::r,a=>by simp [revE,Oq r (e::a)]
theorem Lm {P:Program} {E:Env} {R:Type} {all:List Oper} {base:Nat} {k:List Value→Heap→List En→Option R} {r:R} :∀(ops:List Oper) (i:Nat) (T:List Value) (H:Heap) (L:List En),runK P E all base ops i T H L k=some r→
  ∃(T':List Value) (H':Heap) (M:List En),k T' H' (M.reverse++L)=some r∧Run P E all base M T H T' H'∧M.map (·.o)=ops∧M.map (·.i)=List.range' i ops.length
 |[],i,T,H,L,h=>⟨T,H,[],h,⟨rfl,fun _=>rfl⟩,rfl,rfl⟩
 | o :: ops, i,T,H,L,h=>by
  have step:∀(rec:Rec),one P E all (base+16*i) o T H=some rec→runK P E all base ops (i+1) (putT T o.dst rec.v) (app rec.ws H) (⟨i,o,rec⟩::L) k=some r→
    ∃(T':List Value) (H':Heap) (M:List En),k T' H' (M.reverse++L)=some r∧Run P E all base M T H T' H'∧M.map (·.o)=o::ops∧M.map (·.i)=List.range' i (o::ops).length:=by
   intro rec h1 h2
   obtain ⟨T',H',M,h3,h4,h5,h6⟩:=Lm ops (i+1) _ _ _ h2
   refine ⟨T',H',⟨i,o,rec⟩::M,?_,⟨h1,h4⟩,by simp [h5],?_⟩
   ·simpa using h3
   ·simp [h6,List.range'_succ]
  unfold runK at h
  simp only [Jm,fT_eq,R8,GD] at h
  split at h
  ·rename_i hg
   split at h
   ·rename_i need rr hrc
    cases hn:need with
    |false=>rw [hn] at h; simp at h
    | true=>
     rw [hn] at h
     exact step rr (by simp [one,hg,hrc,hn]) h
   ·simp at h
  ·rename_i j want hg
   split at h
   ·rename_i d hd
    split at h
    ·rename_i b hb
     cases b with
     | true=>
      rw [FA hb] at h
      cases want with
      | true=>
       simp only [cond_true] at h
       split at h
       ·rename_i need rr hrc
        cases hn:need with
        |false=>rw [hn] at h; simp at h
        | true=>
         rw [hn] at h
         exact step rr (by simp [one,hg,hd,hb,hrc,hn]) h
       ·simp at h
      |false=>exact step IM (by simp [one,hg,hd,hb]) h
     | false =>
      rw [FA hb] at h
      cases want with
      |true=>exact step IM (by simp [one,hg,hd,hb]) h
      | false=>
       simp only [cond_false] at h
       split at h
       ·rename_i need rr hrc
        cases hn:need with
        |false=>rw [hn] at h; simp at h
        | true=>
         rw [hn] at h
         exact step rr (by simp [one,hg,hd,hb,hrc,hn]) h
       ·simp at h
    ·rename_i hnb
     cases hgo:EX (nth T d) with
     |true=>rw [hgo] at h; cases h
     |false=>
     rw [hgo] at h
     simp only [cond_false] at h
     refine step IM ?_ h
     simp only [one,hg,hd,hgo,cond_false]
   ·simp at h
structure Inv (P:Program) (E:Env) (all:List Oper) (base:Nat) (ms:List Nat) (listed:Array Bool) (L:List En):Prop where
 size:listed.size=all.length
 sorted:L.Pairwise fun a b=>a.i<b.i
 mem:∀e∈L,all[e.i]? =some e.o∧listed.getD e.i true=false
 full:∀i,i<all.length→listed.getD i true=false→∃e∈L,e.i=i
 down:∀i,i<all.length→listed.getD i true=true→∀j,(ms.getD i 0).testBit j=true→listed.getD j false=true
theorem Qt {all:List Oper} {a b:En} (h:Jb all a b=true):Indep all a b:=by
 unfold Jb at h
 simp only [zB] at h
 obtain ⟨⟨h1,h2⟩,h3⟩:=h
 have n1:∀d l,(!(memN d l))=true→d ∉ l:=fun d l h hm=>by
  rw [F5.2 hm] at h; cases h
 have nd:∀l m:List Nat,disj l m=true→∀n∈l,n ∉ m:=fun l m h n hn=>n1 _ _ (by
  simp only [disj,List.all_eq_true] at h; exact h n hn)
 have ws:(∀x∈a.r.ws,x.1 ∉ b.r.rs)∧(∀x∈b.r.ws,x.1 ∉ a.r.rs)∧(∀x∈a.r.ws,∀y∈b.r.ws,x.1≠y.1):=by
  split at h3
  ·rename_i e1 e2
   simp [e1,e2]
  ·simp only [zB] at h3
   obtain ⟨⟨k1,k2⟩,k3⟩:=h3
   refine ⟨fun x hx=>nd _ _ k1 x.1 (List.mem_map.2 ⟨x,hx,rfl⟩),fun x hx=>nd _ _ k2 x.1 (List.mem_map.2 ⟨x,hx,rfl⟩),fun x hx y hy e=>nd _ _ k3 x.1 (List.mem_map.2 ⟨x,hx,rfl⟩) (List.mem_map.2 ⟨y,hy,e.symm⟩)⟩
 refine ⟨fun d hd=> ?_,fun d hd=> ?_,fun d hd e=> ?_,ws.1,ws.2.1,ws.2.2⟩
 ·simp only [hd,zB] at h1
  exact n1 _ _ h1.1
 ·simp only [hd] at h2
  exact n1 _ _ h2
 ·simp only [hd,e,zB] at h1
  simp at h1
theorem Hh {all:List Oper} {mask:Nat} {e:En} :∀ {l:List En},I4 all mask e l=true→∀y∈l,mask.testBit y.i=true∨Jb all y e=true
 |[],_,y,hy=>by cases hy
 | x::r,h,y,hy=>by
  simp only [I4,zB,Bool.or_eq_true] at h
  cases hy with
  |head=>exact h.1
  |tail _ hy=>exact Hh h.2 y hy
structure Checked (all:List Oper) (base:Nat) (ms:List Nat) (L:List En):Prop where
 rec_:∀e∈L,NE base (ms.getD e.i 0) e=true
 pair:L.Pairwise fun y e=>(ms.getD e.i 0).testBit y.i=true∨Jb all y e=true
theorem L0 {all:List Oper} {base:Nat} {ms:List Nat} :∀ {l done:List En},NF all base ms done l=true→Checked all base ms l∧∀e∈l,∀y∈done,(ms.getD e.i 0).testBit y.i=true∨Jb all y e=true
 |[],done,_=>⟨⟨by simp,by simp⟩,by simp⟩
 | e ::r,done,h=>by
  simp only [NF,zB] at h
  obtain ⟨⟨h1,h2⟩,h3⟩:=h
  obtain ⟨⟨k1,k2⟩,k3⟩:=L0 h3
  refine ⟨⟨fun x hx=> ?_,?_⟩,fun x hx y hy=> ?_⟩
  ·cases hx with
   |head=>exact h1
   |tail _ hx=>exact k1 x hx
  ·exact List.pairwise_cons.2 ⟨fun x hx=>k3 x hx e (by simp),k2⟩
  ·cases hx with
   |head=>exact Hh h2 y hy
   |tail _ hx=>exact k3 x hx y (by simp [hy])
theorem Checked.sub {all:List Oper} {base:Nat} {ms:List Nat} {pre post:List En} {x:En} (h:Checked all base ms (pre++x::post)):Checked all base ms (pre++post):=by
 refine ⟨fun e he=>h.rec_ e ?_,h.pair.sublist ?_⟩
 ·simp only [List.mem_append,List.mem_cons] at he ⊢
  rcases he with he|he
  ·exact .inl he
  ·exact .inr (.inr he)
 ·exact List.Sublist.append (List.Sublist.refl _) (List.sublist_cons_self _ _)
theorem Jc {base mask i m n:Nat} (h:Kz base mask i n=true) (hm:m≠i) (hb:mask.testBit m=false):n<base+16*m∨base+16*m+16≤n:=by
 simp only [Kz,Bool.or_eq_true] at h
 rcases h with (h|h)|h
 ·have:n<base:=by simpa [Nat.blt_eq] using h
  omega
 ·have:=zE h
  rcases Nat.lt_or_ge n (base+16*m) with h1|h1
  ·exact .inl h1
  ·right
   rcases Nat.lt_or_ge n (base+16*m+16) with h2|h2
   ·exfalso
    have:(n-base)/16=m:=by omega
    omega
   ·exact h2
 ·rcases Nat.lt_or_ge n (base+16*m) with h1|h1
  ·exact .inl h1
  ·right
   rcases Nat.lt_or_ge n (base+16*m+16) with h2|h2
   ·exfalso
    have e:(n-base)/16=m:=by omega
    rw [e,hb] at h
    cases h
   ·exact h2
def FreshL (base:Nat) (L:List En) (T:List Value) (H:Heap):Prop:=∀e∈L,Fresh (base+16*e.i) T H
theorem OB {base mask:Nat} {x:En} {T:List Value} {H:Heap} {m:Nat} (h:NE base mask x=true) (hm:m≠x.i) (hb:mask.testBit m=false) (fr:Fresh (base+16*m) T H):Fresh (base+16*m) (putT T x.o.dst x.r.v) (app x.r.ws H):=by
  simp only [NE,zB,List.all_eq_true] at h
  obtain ⟨⟨hv,hw⟩,_⟩:=h
  have frv:Fr (base+16*m) x.r.v:=fun g g' e=>Ft (fun n hn=>e n (Jc hn hm hb)) 8 _ hv
  refine ⟨fun v hv'=> ?_,fun n b hl=> ?_⟩
  · cases hd:x.o.dst with
    |none=>rw [hd] at hv'; exact fr.t v hv'
    | some d=>
      rw [hd] at hv'
      simp only [putT,FQ] at hv'
      rcases List.mem_or_eq_of_mem_set hv' with h1|rfl
      · exact fr.t v h1
      · exact frv
  · by_cases hin:∃y∈x.r.ws,y.1=n
    · have key:∀(ws:List (Nat×Blk)) (H:Heap),(∃y∈ws,y.1=n)→look (app ws H) n=some b→(n,b)∈ws:=by
        intro ws
        induction ws with
        |nil=>rintro H ⟨y,hy,_⟩; cases hy
        | cons z r ih=>
          rintro H ⟨y,hy,rfl⟩ hl
          by_cases hr:∃z∈r,z.1=y.1
          · exact List.mem_cons_of_mem _ (ih _ hr hl)
          · have hr':∀z∈r,z.1≠y.1:=fun z hz e=>hr ⟨z,hz,e⟩
            have hl':look (upd H z.1 z.2) y.1=some b:=by rw [←Ec hr']; exact hl
            cases hy with
            | head=>
              rw [Em,if_pos rfl] at hl'
              injection hl' with hl'
              subst hl'
              exact List.mem_cons_self
            |tail _ hy=>exact absurd rfl (hr' y hy)
      have hm':=key _ _ hin hl
      have:=hw (n,b) hm'
      exact ⟨Jc this.1 hm hb,fun c hc g g' e=>Qc this.2 (fun n hn=>e n (Jc hn hm hb)) c hc⟩
    · have hne:∀y∈x.r.ws,y.1≠n:=fun y hy e=>hin ⟨y,hy,e⟩
      rw [Ec hne] at hl
      exact fr.h n b hl
theorem JG {l:Array Bool} {i j:Nat} {d:Bool} (hi:i<l.size):(l.setIfInBounds i true).getD j d=if j=i then true else l.getD j d:=by
 simp only [Array.getD_eq_getD_getElem?,Array.getElem?_setIfInBounds]
 by_cases h:i=j
 ·subst h; simp [hi]
 ·have:j≠i:=fun e=>h e.symm
  simp [h,this]
theorem OG {P:Program} {E:Env} (hE:∀f s,look E.spec f=some s→SOK P f s) {all:List Oper} {base:Nat} {ms:List Nat} (hms:ms=masks all []) {Q:Exit→Act→World→Prop} {W0:World} {out:Nat→Prop} {g0:Nat→Nat} {T':List Value} {H':Heap} (nx:Nat) (hnx:nx=base+16*all.length)
  (hk:∀(g':Nat→Nat) (H2:Heap) (a':Act) (w':World),(∀n,n<base→g' n=g0 n)→heq H2 H'→TRel g' T' nx a'→HRel W0 out g' H2 nx w'→Q .normal a' w'):
  ∀ (fuel:Nat) (listed:Array Bool) (L:List En) (T:List Value) (H:Heap) (g:Nat→Nat) (a:Act) (w:World),L.length=fuel→Inv P E all base ms listed L→Checked all base ms L→Run P E all base L T H T' H'→FreshL base L T H→
   (∀n,n<base→g n=g0 n)→TRel g T nx a→HRel W0 out g H nx w→wpAny P .any all.toArray Q fuel listed a w:=by
 intro fuel
 induction fuel with
 | zero=>
  intro listed L T H g a w hl inv _ run _ hg tr hr
  have:L=[]:=List.length_eq_zero_iff.1 hl
  subst this
  obtain ⟨rfl,hh⟩:=run
  refine ⟨?_,hk g H a w hg hh tr hr⟩
  rw [Region.ready,List.filter_eq_nil_iff]
  intro i hi hc
  have hi':i<all.length:=by simpa using hi
  simp only [zB,Bool.not_eq_true'] at hc
  obtain ⟨e,he,_⟩:=inv.full i hi' hc.1
  cases he
 | succ fuel ih=>
  intro listed L T H g a w hl inv chk run fresh hg tr hr
  refine ⟨fun hnil=> ?_,fun i hi=> ?_⟩
  ·exfalso
   match L,hl with
   | e ::r,_=>
    have ⟨h1,h2⟩:=inv.mem e (by simp)
    have hmem:e.i∈Region.ready .any all.toArray listed:=by
     rw [mem_ready]
     refine ⟨h2,e.o,by simpa using h1,fun d hd hb=> ?_⟩
     have hok:=chk.rec_ e (by simp)
     simp only [NE,zB,List.all_eq_true] at hok
     have hlt:=hok.2 d (by simpa using hd)
     rw [M9,hb] at hlt
     have hlt':d.on<e.i:=by simpa [Nat.blt_eq] using hlt
     have hin:d.on<all.length:=by
      have:=(List.getElem?_eq_some_iff.1 h1).1
      omega
     cases hlis:listed.getD d.on true with
     | true=>
      have hs:d.on<listed.size:=by rw [inv.size]; exact hin
      simp only [Array.getD_eq_getD_getElem?,Array.getElem?_eq_getElem hs,Option.getD_some] at hlis ⊢
      exact hlis
     | false=>
      exfalso
      obtain ⟨e',he',hei⟩:=inv.full d.on hin hlis
      cases he' with
      |head=>omega
      | tail _ he'=>
       have:=(List.pairwise_cons.1 inv.sorted).1 e' he'
       omega
    rw [hnil] at hmem
    cases hmem
  ·obtain ⟨hun,o,ho,hready⟩:=mem_ready.1 hi
   have ho':all[i]? =some o:=by simpa using ho
   have hilt:i<all.length:=(List.getElem?_eq_some_iff.1 ho').1
   obtain ⟨x,hx,hxi⟩:=inv.full i hilt hun
   subst hxi
   obtain ⟨pre,post,hL⟩:=List.append_of_mem hx
   subst hL
   have hox:o=x.o:=by
    have:=(inv.mem x hx).1
    rw [ho'] at this
    injection this
   subst hox
   have hsz:x.i<listed.size:=by rw [inv.size]; exact hilt
   have anc:∀j,(ms.getD x.i 0).testBit j=true→listed.getD j false=true:=by
    intro j hj
    obtain ⟨acc',h1,h2⟩:=L6 all [] x.i x.o ho'
    simp only [List.length_nil,Nat.zero_add] at h1
    rw [hms,h1] at hj
    obtain ⟨d,hd,hb,hor⟩:=Id hj
    have hdl:=hready d (by simpa using hd) (by rw [←M9]; exact hb)
    rcases hor with rfl|hor
    ·exact hdl
    ·rcases h2 d.on with h0|h0
     ·rw [h0] at hor; simp at hor
     ·rw [h0,←hms] at hor
      have hdin:d.on<all.length:=by
       rw [←inv.size]
       rcases Nat.lt_or_ge d.on listed.size with h'|h'
       ·exact h'
       ·simp [Array.getD_eq_getD_getElem?,Array.getElem?_eq_none h'] at hdl
      refine inv.down d.on hdin ?_ j hor
      have hs:d.on<listed.size:=by rw [inv.size]; exact hdin
      simp only [Array.getD_eq_getD_getElem?,Array.getElem?_eq_getElem hs,Option.getD_some] at hdl ⊢
      exact hdl
   have notanc:∀e∈pre++x::post,(ms.getD x.i 0).testBit e.i=false:=by
    intro e he
    cases hb:(ms.getD x.i 0).testBit e.i with
    |false=>rfl
    | true=>
     exfalso
     have h1:=anc e.i hb
     have h2:=(inv.mem e he).2
     have hin:e.i<listed.size:=by
      rw [inv.size]; exact (List.getElem?_eq_some_iff.1 (inv.mem e he).1).1
     simp only [Array.getD_eq_getD_getElem?,Array.getElem?_eq_getElem hin,Option.getD_some] at h1 h2
     rw [h1] at h2
     cases h2
   have ind:∀y∈pre,Indep all y x:=by
    intro y hy
    have:=(List.pairwise_append.1 chk.pair).2.2 y hy x (by simp)
    rcases this with h1|h1
    ·rw [notanc y (by simp [hy])] at h1; cases h1
    ·exact Qt h1
   obtain ⟨hone,hrun⟩:=Run.front pre run ind
   have hlen:(pre++post).length=fuel:=by
    simp only [List.length_append,List.length_cons] at hl ⊢
    omega
   have hne:∀e∈pre++post,e.i≠x.i:=by
    have hp:=inv.sorted
    rw [List.pairwise_append,List.pairwise_cons] at hp
    intro e he
    rcases List.mem_append.1 he with he|he
    ·have:=hp.2.2 e he x (by simp)
     omega
    ·have:=hp.2.1.1 e he
     omega
   have sub:∀e∈pre++post,e∈pre++x::post:=fun e he=>by
    simp only [List.mem_append,List.mem_cons] at he ⊢
    rcases he with he|he
    ·exact .inl he
    ·exact .inr (.inr he)
   have inv':Inv P E all base ms (listed.setIfInBounds x.i true) (pre++post):=by
    refine ⟨by simp [inv.size],inv.sorted.sublist (List.Sublist.append (List.Sublist.refl _) (List.sublist_cons_self _ _)),fun e he=> ?_,fun j hj hl'=> ?_,fun j hj hl' k hk'=> ?_⟩
    ·refine ⟨(inv.mem e (sub e he)).1,?_⟩
     rw [JG hsz,if_neg (hne e he)]
     exact (inv.mem e (sub e he)).2
    ·rw [JG hsz] at hl'
     by_cases hjx:j=x.i
     ·rw [if_pos hjx] at hl'; cases hl'
     ·rw [if_neg hjx] at hl'
      obtain ⟨e,he,hei⟩:=inv.full j hj hl'
      refine ⟨e,?_,hei⟩
      simp only [List.mem_append,List.mem_cons] at he ⊢
      rcases he with he|rfl|he
      ·exact .inl he
      ·exact absurd hei.symm hjx
      ·exact .inr he
    ·rw [JG hsz] at hl'
     have h0:listed.getD k false=true:=by
      by_cases hjx:j=x.i
      ·subst hjx; exact anc k hk'
      ·rw [if_neg hjx] at hl'
       exact inv.down j hj hl' k hk'
     rw [JG hsz]
     split
     ·rfl
     ·exact h0
   have fresh':FreshL base (pre++post) (putT T x.o.dst x.r.v) (app x.r.ws H):=fun e he=>
    OB (chk.rec_ x hx) (hne e he) (notanc e (sub e he)) (fresh e (sub e he))
   have go:∀rc,FL P E (base+16*x.i) x.o T H=some rc→rc.need=true→rc.r=x.r→x.o.wp P a w (wpAny P .any all.toArray Q fuel (listed.setIfInBounds x.i true)) Q:=by
    intro rc hrc hneed hrr
    have:=NP hE (nx:=nx) (by rw [hnx]; omega) hrc hneed
    refine this.go W0 out g a w _ Q tr hr (fresh x hx) fun g' w' hg' tr' hr' hb=> ?_
    rw [hrr] at hr' hb ⊢
    exact ih _ _ _ _ g' _ w' hlen inv' chk.sub hrun fresh' (fun n hn=>by rw [←hg' n (.inl (by omega)),hg n hn]) (tr'.put x.o.dst hb rfl) hr'
   have skip:x.r=IM→wpAny P .any all.toArray Q fuel (listed.setIfInBounds x.i true) (a.put x.o.dst undef) w:=by
    intro hrr
    rw [hrr] at hrun fresh'
    exact ih _ _ _ _ g _ w hlen inv' chk.sub hrun fresh' hg (tr.put x.o.dst (Clo.undef.bnd _) (by simp [IM])) hr
   unfold wpOp
   simp only [ho]
   have tail:(match FL P E (base+16*x.i) x.o T H with|some rc=>bif rc.need then some rc.r else none|none=>none)=some x.r→x.o.wp P a w (wpAny P .any all.toArray Q fuel (listed.setIfInBounds x.i true)) Q:=by
    intro h
    split at h
    ·rename_i rc hrc
     cases hn:rc.need with
     |false=>rw [hn] at h; simp at h
     | true=>
      rw [hn] at h
      simp only [cond_true,zS] at h
      exact go rc hrc hn h
    ·simp at h
   unfold one at hone
   split at hone
   ·rename_i hgd
    rw [if_pos (by simp [Region.wanted,hgd])]
    exact .inl (tail hone)
   ·rename_i j want hgd
    split at hone
    ·rename_i d hd
     split at hone
     ·rename_i b hb
      have hy:=IT (all:=all) tr hd hb
      have hw:Region.wanted x.o (yielded all.toArray a.tmps)=(some b==some want):=by simp [Region.wanted,hgd,hy]
      cases hbw:(b==want) with
      | true=>
       rw [hbw] at hone
       rw [if_pos (by rw [hw]; simpa using hbw)]
       exact .inl (tail hone)
      | false=>
       rw [hbw] at hone
       simp only [cond_false,zS] at hone
       rw [if_neg (by rw [hw]; simpa using hbw)]
       exact skip hone.symm
     ·rename_i hnb
      cases hgo:EX (nth T d) with
      |true=>rw [hgo] at hone; cases hone
      |false=>
      rw [hgo] at hone
      have hy:=HW (all:=all) tr hd (fun b hb=>hnb b hb) hgo
      simp only [cond_false,zS] at hone
      rw [if_neg (by simp [Region.wanted,hgd,hy])]
      exact skip hone.symm
    ·simp at hone
theorem NY {P:Program} {E:Env} {R:Type} (hE:∀f s,look E.spec f=some s→SOK P f s) (hm:P.follows .mixedOrders=true) {id:Nat} {ops:Array Oper} {S:St} {k:St→Option R} {r:R} {Q:Exit→Act→World→Prop} (h:drawK P E ops.toList S k=some r)
  {W0:World} {out:Nat→Prop} {g:Nat→Nat} {a:Act} {w:World} (tr:TRel g S.tmps S.nxt a) (hr:HRel W0 out g S.heap S.nxt w)
  (hk:∀(S':St) (g':Nat→Nat) (a':Act) (w':World),k S'=some r→(∀n,n<S.nxt→g' n=g n)→S.nxt≤S'.nxt→TRel g' S'.tmps S'.nxt a'→HRel W0 out g' S'.heap S'.nxt w'→Q .normal a' w'):
  (Code.region id ops true).wp P Q a w:=by
 obtain ⟨T',H',M,h1,hrun,hMo,hMi⟩:=Lm _ _ _ _ _ h
 rw [List.append_nil,Oq,List.append_nil,List.reverse_reverse] at h1
 cases hok:NF ops.toList S.nxt (masks ops.toList []) [] M with
 |false=>rw [hok] at h1; simp at h1
 | true=>
  rw [hok] at h1
  simp only [cond_true,GD] at h1
  obtain ⟨chk,_⟩:=L0 hok
  have hlen:M.length=ops.toList.length:=by rw [←hMo]; simp
  have hget:∀e∈M,ops.toList[e.i]? =some e.o:=by
   intro e he
   obtain ⟨p,hp,rfl⟩:=List.getElem_of_mem he
   have e1:(M.map (·.i))[p]? =(List.range' 0 ops.toList.length)[p]? :=by rw [hMi]
   have e2:(M.map (·.o))[p]? =ops.toList[p]? :=by rw [hMo]
   have hp':p<ops.toList.length:=by omega
   simp only [List.getElem?_map,List.getElem?_eq_getElem hp,Option.map_some] at e1 e2
   rw [List.getElem?_range' hp'] at e1
   simp only [Nat.zero_add,Nat.one_mul,zS] at e1
   rw [e1,←e2]
  have key:∀w',w'.heap=w.heap→w'.os=w.os→w'.tape=w.tape→w'.output=w.output→HRel W0 out g S.heap (S.nxt+16*ops.toList.length) w':=by
   intro w' e1 e2 e3 e4
   have hr':=hr.mono (nx':=S.nxt+16*ops.toList.length) (by omega)
   exact ⟨hr'.dom,hr'.bnd,fun n b hb=>by rw [e1]; exact hr'.mem n b hb,hr'.inj,hr'.own,⟨e2.trans hr.keep.os,e3.trans hr.keep.tape,e4.trans hr.keep.output,by rw [e1]; exact hr.keep.size,fun k hk1 hk2=>by rw [e1]; exact hr.keep.block k hk1 hk2⟩,hr'.tabs.of (fun x _=>by rw [e1]),hr'.ntab⟩
  refine wp_region_any hm ?_
  have hsz:ops.size=M.length:=by rw [hlen]; simp
  rw [hsz]
  have:=OG hE (all:=ops.toList) (base:=S.nxt) rfl (Q:=Q) (W0:=W0) (out:=out) (g0:=g) (T':=T') (H':=H') (S.nxt+16*ops.toList.length) rfl
   (fun g' H2 a' w' hg' hh tr' hr'=>by
    have hr2:HRel W0 out g' H' (S.nxt+16*ops.toList.length) w':=
     ⟨fun n b hb=>hr'.dom n b (by rw [hh n]; exact hb),fun n b hb=>hr'.bnd n b (by rw [hh n]; exact hb),fun n b hb=>hr'.mem n b (by rw [hh n]; exact hb),fun n m b c hb hc=>hr'.inj n m b c (by rw [hh n]; exact hb) (by rw [hh m]; exact hc),fun n b hb=>hr'.own n b (by rw [hh n]; exact hb),hr'.keep,hr'.tabs,fun n b hb=>hr'.ntab n b (by rw [hh n]; exact hb)⟩
    exact hk ⟨T',H',S.nxt+16*ops.toList.length⟩ g' a' w' h1 hg' (by show S.nxt≤S.nxt+16*ops.toList.length; omega) tr' hr2)
   M.length (Array.replicate M.length false) M S.tmps S.heap g a {w with drawn:=w.drawn+1} rfl
   ⟨by simp [hlen],?_,fun e he=>⟨hget e he,?_⟩,fun i hi _=> ?_,fun i hi hl=> ?_⟩ chk hrun
   (fun e he=>⟨fun v hv=>((tr.tb v hv).mono (by omega)).fr,fun n b hb=>⟨.inl (by have:=hr.dom n b hb; omega),fun v hv=>((hr.bnd n b hb v hv).mono (by omega)).fr⟩⟩)
   (fun _ _=>rfl) (tr.mono (by omega)) (key _ rfl rfl rfl rfl)
  ·simpa using this
  ·have:(M.map (·.i)).Pairwise (· < ·):=by rw [hMi]; exact List.pairwise_lt_range' _
   rw [List.pairwise_map] at this
   exact this
  ·have:=(List.getElem?_eq_some_iff.1 (hget e he)).1
   have h2:e.i<M.length:=by omega
   rw [Array.getD_eq_getD_getElem?,Array.getElem?_replicate,if_pos h2]
   rfl
  ·have hi':i<M.length:=by omega
   refine ⟨M[i],List.getElem_mem hi',?_⟩
   have e1:(M.map (·.i))[i]? =(List.range' 0 ops.toList.length)[i]? :=by rw [hMi]
   simp only [List.getElem?_map,List.getElem?_eq_getElem hi',Option.map_some] at e1
   rw [List.getElem?_range' hi] at e1
   simpa using e1
  ·have h2:i<M.length:=by omega
   rw [Array.getD_eq_getD_getElem?,Array.getElem?_replicate,if_pos h2] at hl
   cases hl
section
variable (P:Program) (E:Env) {R:Type}
def Jt (cf:Nat→List Value→Heap→Nat→(Value→Heap→Nat→Option R)→Option R) (o:Oper) (S:St) (k:St→Option R):Option R:=
 match FL P E S.nxt o S.tmps S.heap with
 |some ⟨need,r⟩=>bif need then fRm E r fun r'=>fS ⟨putT S.tmps o.dst r'.v,app r'.ws S.heap,S.nxt+16⟩ k else none
 | none=>
  match o.op with
  | .call c=>
   (match c.callee with
   | .value x=>
    bif evOk S.tmps x&&c.args.toList.all (evOk S.tmps) then
     (match ev S.tmps x with
     | .func (.func f) ⟨first⟩ ⟨cap⟩=>cf f (first++c.args.toList.map (ev S.tmps)++cap) S.heap S.nxt fun v H nx=>fS ⟨putT S.tmps o.dst v,H,nx⟩ k
     |_=>none)
    else none
   |_=>none)
  |_=>none
def seqK (cf:Nat→List Value→Heap→Nat→(Value→Heap→Nat→Option R)→Option R) (all:List Oper):List Oper→St→(St→Option R)→Option R
 |[],S,k=>k S
 | o :: r, S,k=>
  match o.guard with
  |none=>Jt P E cf o S fun S'=>seqK cf all r S' k
  | some (j,want)=>
   match gdst all j with
   | some d=>
    (match nth S.tmps d with
    | .bool b=>
     bif b then
      bif want then Jt P E cf o ⟨setn S.tmps d (.bool true),S.heap,S.nxt⟩ fun S'=>seqK cf all r S' k
      else fS ⟨putT (setn S.tmps d (.bool true)) o.dst undef,S.heap,S.nxt⟩ fun S'=>seqK cf all r S' k
     else
      bif want then fS ⟨putT (setn S.tmps d (.bool false)) o.dst undef,S.heap,S.nxt⟩ fun S'=>seqK cf all r S' k
      else Jt P E cf o ⟨setn S.tmps d (.bool false),S.heap,S.nxt⟩ fun S'=>seqK cf all r S' k
    |_=>bif EX (nth S.tmps d) then none else fS ⟨putT S.tmps o.dst undef,S.heap,S.nxt⟩ fun S'=>seqK cf all r S' k)
   |none=>none
def Fq {A:Type} (fail:A) (o:Oper) (S:St) (k:St→A):A:=
 match FL P E S.nxt o S.tmps S.heap with
 |some ⟨need,r⟩=>bif need then fRm E r fun r'=>(match r'.ws with|[]=>fS ⟨putT S.tmps o.dst r'.v,S.heap,S.nxt+16⟩ k|_=>fail) else fail
 |none=>fail
def seqM {A :Type} (fail:A) (all:List Oper):List Oper→St→(St→A)→A
 |[],S,k=>k S
 | o :: r, S,k=>
  match o.guard with
  |none=>Fq P E fail o S fun S'=>seqM fail all r S' k
  | some (j,want)=>
   match gdst all j with
   | some d=>
    (match nth S.tmps d with
    | .bool b=>
     bif b then
      bif want then Fq P E fail o ⟨setn S.tmps d (.bool true),S.heap,S.nxt⟩ fun S'=>seqM fail all r S' k
      else fS ⟨putT (setn S.tmps d (.bool true)) o.dst undef,S.heap,S.nxt⟩ fun S'=>seqM fail all r S' k
     else
      bif want then fS ⟨putT (setn S.tmps d (.bool false)) o.dst undef,S.heap,S.nxt⟩ fun S'=>seqM fail all r S' k
      else Fq P E fail o ⟨setn S.tmps d (.bool false),S.heap,S.nxt⟩ fun S'=>seqM fail all r S' k
    |_=>bif EX (nth S.tmps d) then fail else fS ⟨putT S.tmps o.dst undef,S.heap,S.nxt⟩ fun S'=>seqM fail all r S' k)
   |none=>fail
def both (b t f:Bool):Bool:=bif t then (bif f then true else b) else (bif b then false else f)
theorem both_eq (b t f:Bool):both b t f=bif b then t else f:=by cases b<;>cases t<;>cases f<;>rfl
def seqN (all :List Oper):List Oper→List (Nat×Bool)→St→(St→Bool)→Bool
 |[],_,S,k=>k S
 | o :: r, K,S,k=>
  match o.guard with
  |none=>Fq P E false o S fun S'=>seqN all r K S' k
  | some (j,want)=>
   match gdst all j with
   | some d=>
    (match nth S.tmps d with
    | .bool b=>
     (match look K d with
     | some true=>
      bif b then
       (bif want then Fq P E false o ⟨setn S.tmps d (.bool true),S.heap,S.nxt⟩ fun S'=>seqN all r K S' k
       else fS ⟨putT (setn S.tmps d (.bool true)) o.dst undef,S.heap,S.nxt⟩ fun S'=>seqN all r K S' k)
      else false
     | some false=>
      bif b then false
      else
       (bif want then fS ⟨putT (setn S.tmps d (.bool false)) o.dst undef,S.heap,S.nxt⟩ fun S'=>seqN all r K S' k
       else Fq P E false o ⟨setn S.tmps d (.bool false),S.heap,S.nxt⟩ fun S'=>seqN all r K S' k)
     | none=>
      both b
       (bif want then Fq P E false o ⟨setn S.tmps d (.bool true),S.heap,S.nxt⟩ fun S'=>seqN all r ((d,true)::K) S' k
       else fS ⟨putT (setn S.tmps d (.bool true)) o.dst undef,S.heap,S.nxt⟩ fun S'=>seqN all r ((d,true)::K) S' k)
       (bif want then fS ⟨putT (setn S.tmps d (.bool false)) o.dst undef,S.heap,S.nxt⟩ fun S'=>seqN all r ((d,false)::K) S' k
       else Fq P E false o ⟨setn S.tmps d (.bool false),S.heap,S.nxt⟩ fun S'=>seqN all r ((d,false)::K) S' k))
    |_=>bif EX (nth S.tmps d) then false else fS ⟨putT S.tmps o.dst undef,S.heap,S.nxt⟩ fun S'=>seqN all r K S' k)
   |none=>false
def Env.merges (E:Env):Bool:=match E.spec with|(a,_)::(b,_)::_=>Nat.beq a b|_=>false
def JE (d:Nat) (S:St):Bool:=match nth S.tmps d with| .bool _=>true|_=>false
def Ml (d:Nat) (S:St):Bool:=match nth S.tmps d with| .bool b=>b|_=>false
def Mf:List Oper→Option (List Oper×Oper×Nat×List Oper)
 |[]=>none
 | o::r=>match o.guard with
  |some _=>(match Mf r with|some (s,p,d,t)=>some (o::s,p,d,t)|none=>none)
  |none=>(match o.op,o.dst with| .pick _ _ _,some d=>some ([],o,d,r)|_,_=>none)
def G4 (V:Nat→Value):List Oper→List Value→List Value
 |[],T=>T
 |o::r,T=>G4 V r (match o.dst with|some i=>setn T i (V i)|none=>T)
def mrgS (all s:List Oper) (p:Oper) (d:Nat) (S:St):St:=
 ⟨setn (G4 (fun i=>seqM P E undef all (s++[p]) S fun S'=>nth S'.tmps i) s S.tmps) d (.bool (seqM P E false all (s++[p]) S (Ml d))),S.heap,S.nxt+16*(s.length+1)⟩
def seqS (cf:Nat→List Value→Heap→Nat→(Value→Heap→Nat→Option R)→Option R) (all:List Oper):Nat→List Oper→St→(St→Option R)→Option R
 |0,l,S,k=>seqK P E cf all l S k
 |_+1,[],S,k=>k S
 | n + 1,o::r,S,k=>
  match o.guard with
  |none=>Jt P E cf o S fun S'=>seqS cf all n r S' k
  | some _=>
   match Mf (o::r) with
   | some (s,p,d,t)=>
    bif seqN P E all (s++[p]) [] S (JE d) then fS (mrgS P E all s p d S) fun S'=>seqS cf all n t S' k
    else seqK P E cf all (o::r) S k
   |none=>seqK P E cf all (o::r) S k
def ltK {R:Type} (k:X→St→Option R):LT→Option R
 | .got need x S=>bif need then fS S fun S'=>k x S' else none
 | .br b l r=>bif b then ltK k l else ltK k r
theorem O1 {R:Type} {k:X→St→Option R} {r:R} :∀ {t:LT},ltK k t=some r→∃x S,t.at=some (x,S)∧k x S=some r
 | .got need x S,h=>by
  simp only [ltK,FT] at h
  cases need with
  |false=>cases h
  |true=>exact ⟨x,S,rfl,h⟩
 | .br b l r,h=>by
  simp only [ltK] at h
  cases b with
  |false=>exact O1 (t:=r) h
  |true=>exact O1 (t:=l) h
def toldL (L:List (Nat×LSpec)) (id:Nat):Code→Option LSpec
 | .loop _=>look L id
 |_=>none
def blkK {R:Type} (id:Nat) (k:X→St→Option R) (x:X) (S:St):Option R:=
 match x with
 | .exit i=>bif Nat.beq i id then k .normal S else k (.exit i) S
 |x=>k x S
def F8:Code→List (Nat×Code)
 | .seq a b=>F8 a++F8 b
 | .cond _ a b=>F8 a++F8 b
 | .block id a=>(match a with| .loop c=>[(id,c)]|_=>[])++F8 a
 |_=>[]
def exec (L:List (Nat×LSpec)) (lf:Code→St→(X→St→Option R)→Option R) (cf:Nat→List Value→Heap→Nat→(Value→Heap→Nat→Option R)→Option R):Code→St→(X→St→Option R)→Option R
 | .skip,S,k=>k .normal S
 | .seq a b,S,k=>exec L lf cf a S fun x S'=>match x with| .normal=>exec L lf cf b S' k|x=>k x S'
 | .cond c a b,S,k=>
  (match c with
  | .tmp t=>
   (match nth S.tmps t with
   | .bool v=>bif v then fS ⟨setn S.tmps t (.bool true),S.heap,S.nxt⟩ fun S'=>exec L lf cf a S' k else fS ⟨setn S.tmps t (.bool false),S.heap,S.nxt⟩ fun S'=>exec L lf cf b S' k
   |_=>none)
  | .const (.bool v)=>bif v then exec L lf cf a S k else exec L lf cf b S k
  |_=>none)
 | .block id a,S,k=>
  (match toldL L id a with
  |none=>exec L lf cf a S (blkK id k)
  | some t=>
   (match t S with
   |some lt=>ltK (blkK id k) lt
   |none=>none))
 | .loop c,S,k=>lf c S k
 | .exit id,S,k=>k (.exit id) S
 | .ret,S,k=>k .ret S
 | .region _ ops d,S,k=>bif d then drawK P E ops.toList S (fun S'=>k .normal S') else bif E.merges then seqS P E cf ops.toList ops.size ops.toList S fun S'=>k .normal S' else seqK P E cf ops.toList ops.toList S fun S'=>k .normal S'
 |_,_,_=>none
def resV (S:St):ResultVar→Option Value
 | .tmp t=>bif EX (nth S.tmps t) then none else some (nth S.tmps t)
 | .cell a t=>
  match nth S.tmps a with
  | .pointer (some ⟨b,o,none⟩)=>JB P S.heap t b o
  |_=>none
def ress (S:St):List ResultVar→Option (List Value)
 |[]=>some []
 | r::rs=>match resV P S r,ress S rs with
  |some v,some vs=>some (v::vs)
  |_,_=>none
def IR:List Value→Value
 |[v]=>v
 |vs=> .tuple ⟨vs⟩
def pad:Nat→List Value→List Value
 |0,r=>r
 |n+1,[]=>undef::pad n []
 |n+1,v::r=>v::pad n r
def Jn (L:List (Nat×LSpec)) (lf:Code→St→(X→St→Option R)→Option R) (cf:Nat→List Value→Heap→Nat→(Value→Heap→Nat→Option R)→Option R) (fn:Func) (vs:List Value) (H:Heap) (nx:Nat) (k:Value→Heap→Nat→Option R):Option R:=
 match fn.body with
 | some c=>fS ⟨pad fn.ntmps vs,H,nx⟩ fun S0=>exec P E L lf cf c S0 fun x S=>
  match x with
  | .exit _=>none
  | _=>match ress P S fn.results.toList with
   |some rs=>fV 6 (IR rs) fun v=>k v S.heap S.nxt
   |none=>none
 |none=>none
def MU (E:Env) (f:Nat):List (Nat×LSpec):=match look E.lps f with|some l=>l|none=>[]
structure Hs (R:Type) where
 lf:Code→St→(X→St→Option R)→Option R
 cf:Nat→List Value→Heap→Nat→(Value→Heap→Nat→Option R)→Option R
def hs:Nat→Hs R
 |0=>⟨fun _ _ _=>none,fun _ _ _ _ _=>none⟩
 | n +1=>
  ⟨fun c S k=>exec P E [] (hs n).lf (hs n).cf c S fun x S'=>match x with| .normal=>(hs n).lf c S' k|x=>k x S',
   fun f vs H nx k=>match look E.inl f with
    |some fn=>Jn P E (MU E f) (hs n).lf (hs n).cf fn vs H nx k
    |none=>none⟩
end
def SRel (W0:World) (out:Nat→Prop) (g0:Nat→Nat) (n0:Nat) (S:St) (a:Act) (w:World):Prop:=
 ∃g:Nat→Nat,(∀n,n<n0→g n=g0 n)∧n0≤S.nxt∧TRel g S.tmps S.nxt a∧HRel W0 out g S.heap S.nxt w
section
variable {P:Program} {E:Env} {R:Type}
def LOKn (P:Program) (N:Nat→Prop) (c:Code) (t:LSpec):Prop:=
 ∀ (S:St) (lt:LT) (x:X) (S':St),t S=some lt→lt.at=some (x,S')→
  ∀ (W0:World) (out:Nat→Prop) (g0:Nat→Nat) (n0:Nat) (a:Act) (w:World) (Q:Exit→Act→World→Prop),N n0→SRel W0 out g0 n0 S a w→
   (∀a' w',SRel W0 out g0 n0 S' a' w'→Q x.to a' w')→(Code.loop c).wp P Q a w
abbrev LOK (P:Program) (c:Code) (t:LSpec):Prop:=LOKn P (fun _=>True) c t
def LsOkn (P:Program) (N:Nat→Prop) (L:List (Nat×LSpec)) (c:Code):Prop:=∀p∈F8 c,∀t,look L p.1=some t→LOKn P N p.2 t
abbrev LsOk (P:Program) (L:List (Nat×LSpec)) (c:Code):Prop:=LsOkn P (fun _=>True) L c
theorem Bs {P:Program} {N:Nat→Prop} {c:Code} :LsOkn P N [] c:=fun p _ t h=>by simp [look] at h
structure EnvOk (P:Program) (E:Env):Prop where
 spec:∀f s,look E.spec f=some s→SOK P f s
 inl:∀f fn,look E.inl f=some fn→P.funcs[f]? =some fn∧fn.name≠ "runtime.NumGoroutine" ∧fn.body.isSome=true
 mixed:P.follows .mixedOrders=true
 lps:∀f fn,look E.inl f=some fn→∀c,fn.body=some c→LsOk P (MU E f) c
theorem Ap {P:Program} {a:List (Nat×HSpec)} {b:List (Nat×Func)} :∀f fn,look (Env.mk a b []).inl f=some fn→∀c,fn.body=some c→LsOk P (MU (Env.mk a b []) f) c:=fun f fn _ c _=>Bs
def CfOk (P:Program) (cf:Nat→List Value→Heap→Nat→(Value→Heap→Nat→Option R)→Option R):Prop:=
 ∀ (f:Nat) (vs:List Value) (H:Heap) (nx:Nat) (k:Value→Heap→Nat→Option R) (r:R),cf f vs H nx k=some r→
  (∃fn,P.funcs[f]? =some fn∧fn.name≠ "runtime.NumGoroutine" ∧fn.body.isSome=true)∧
  ∀ (W0:World) (out:Nat→Prop) (g:Nat→Nat) (w:World),HRel W0 out g H nx w→(∀v∈vs,Bnd nx v)→
   Calls P f ⟨vs.map (ren g)⟩ w fun e w'=>∃(v:Value) (g':Nat→Nat) (H':Heap) (nx':Nat),e= .returned (ren g' v)∧k v H' nx'=some r∧(∀n,n<nx→g' n=g n)∧nx≤nx'∧HRel W0 out g' H' nx' w'∧Bnd nx' v
def LfOk (P:Program) (lf:Code→St→(X→St→Option R)→Option R):Prop:=
 ∀ (c:Code) (S:St) (k:X→St→Option R) (r:R),lf c S k=some r→
  ∀ (W0:World) (out:Nat→Prop) (g0:Nat→Nat) (n0:Nat) (a:Act) (w:World) (Q:Exit→Act→World→Prop),SRel W0 out g0 n0 S a w→
   (∀x S' a' w',k x S'=some r→SRel W0 out g0 n0 S' a' w'→Q x.to a' w')→(Code.loop c).wp P Q a w
theorem Px {g:Nat→Nat} {S:St} {W0:World} {out:Nat→Prop} {a:Act} {w:World} (tr:TRel g S.tmps S.nxt a) (hr:HRel W0 out g S.heap S.nxt w):Fresh S.nxt S.tmps S.heap:=
 ⟨fun v hv=>(tr.tb v hv).fr,fun n b hn=>⟨.inl (hr.dom n b hn),fun v hv=>(hr.bnd n b hn v hv).fr⟩⟩
theorem FY (hE:EnvOk P E) {cf:Nat→List Value→Heap→Nat→(Value→Heap→Nat→Option R)→Option R} (hcf:CfOk P cf) {o:Oper} {S:St} {k:St→Option R} {r:R} (h:Jt P E cf o S k=some r)
  {W0:World} {out:Nat→Prop} {g0:Nat→Nat} {n0:Nat} {a:Act} {w:World} (hs:SRel W0 out g0 n0 S a w) (next:Act→World→Prop) (Q:Exit→Act→World→Prop)
  (hk:∀S' a' w',k S'=some r→SRel W0 out g0 n0 S' a' w'→next a' w'):o.wp P a w next Q:=by
 obtain ⟨g,hg,hn,tr,hr⟩:=hs
 unfold Jt at h
 split at h
 ·rename_i need rr hrc
  cases hneed:need with
  |false=>simp [hneed] at h
  | true=>
   simp only [hneed,cond_true,Jm,FT] at h
   have go:=NP hE.spec (nx:=S.nxt+16) (Nat.le_refl _) hrc hneed
   refine go.go W0 out g a w next Q (tr.mono (by omega)) (hr.mono (by omega)) (Px tr hr) fun g' w' hg' tr' hr' hb=> ?_
   refine hk _ _ _ h ⟨g',fun n hn'=> ?_,by show n0≤S.nxt+16; omega,tr'.put o.dst hb rfl,hr'⟩
   rw [←hg' n (.inl (by omega)),hg n hn']
 ·split at h
  ·rename_i c ho
   split at h
   ·rename_i x hc
    cases hx:(evOk S.tmps x&&c.args.toList.all (evOk S.tmps)) with
    |false=>rw [hx] at h; simp at h
    | true=>
     rw [hx] at h
     simp only [cond_true] at h
     simp only [zB,List.all_eq_true] at hx
     split at h
     ·rename_i f first cap hv
      simp only [FT] at h
      obtain ⟨⟨fn,hf1,hf2,hf3⟩,hcall⟩:=hcf f _ _ _ _ r h
      have hb:∀v∈first++c.args.toList.map (ev S.tmps)++cap,Bnd S.nxt v:=by
       have hbf:=tr.bndEv x
       rw [hv] at hbf
       obtain ⟨b1,b2⟩:=hbf.of_func
       intro v hm
       simp only [List.mem_append] at hm
       rcases hm with (hm|hm)|hm
       ·exact b1 v hm
       ·obtain ⟨y,_,rfl⟩:=List.mem_map.1 hm; exact tr.bndEv y
       ·exact b2 v hm
      have hrun:=Ll (w:=w) ho hc hx.1 hx.2 tr hv hf1 hf2 hf3
      unfold Oper.wp
      rw [hrun,Oper.upon_enter]
      refine (hcall W0 out g w hr hb).mono fun e w' ⟨v,g',H',nx',he,hk',hag,hle,hr',hbv⟩=> ?_
      subst he
      refine hk _ _ _ hk' ⟨g',fun n hn'=> ?_,by show n0≤nx'; omega,((tr.agree (fun n hn'=>(hag n hn').symm)).mono hle).put o.dst hbv rfl,hr'⟩
      rw [hag n (by omega),hg n hn']
     ·simp at h
   ·simp at h
  ·simp at h
theorem FD (hE:EnvOk P E) {cf:Nat→List Value→Heap→Nat→(Value→Heap→Nat→Option R)→Option R} (hcf:CfOk P cf) {all:List Oper} {Q:Exit→Act→World→Prop} {W0:World} {out:Nat→Prop} {g0:Nat→Nat} {n0:Nat} {r:R} {k:St→Option R}
  (hk:∀S' a' w',k S'=some r→SRel W0 out g0 n0 S' a' w'→Q .normal a' w'):∀(rest:List Oper) (S:St),seqK P E cf all rest S k=some r→∀(a:Act) (w:World),SRel W0 out g0 n0 S a w→wpList P all.toArray Q rest a w
 |[],S,h,a,w,hs=>hk S a w h hs
 | o ::rest,S,h,a,w,hs=>by
  unfold seqK at h
  unfold wpList
  split at h
  ·rename_i hgd
   rw [if_pos (by simp [Region.wanted,hgd])]
   exact .inl (FY hE hcf h hs _ Q fun S' a' w' h' hs'=>FD hE hcf hk rest S' h' a' w' hs')
  ·rename_i j want hgd
   split at h
   ·rename_i d hd
    split at h
    ·rename_i b hb
     have hy:yielded all.toArray a.tmps j=some b:=by
      obtain ⟨g,_,_,tr,_⟩:=hs
      exact IT tr hd hb
     have hw:Region.wanted o (yielded all.toArray a.tmps)=(some b==some want):=by simp [Region.wanted,hgd,hy]
     have skip:∀S',S'=(⟨putT S.tmps o.dst undef,S.heap,S.nxt⟩:St)→SRel W0 out g0 n0 S' (a.put o.dst undef) w:=by
      rintro S' rfl
      obtain ⟨g,h1,h2,tr,hr⟩:=hs
      exact ⟨g,h1,h2,tr.put o.dst (Clo.undef.bnd _) (by simp),hr⟩
     cases b with
     | true=>
      rw [FA hb] at h
      cases want with
      | true=>
       simp only [cond_true] at h
       rw [if_pos (by rw [hw]; rfl)]
       exact .inl (FY hE hcf h hs _ Q fun S' a' w' h' hs'=>FD hE hcf hk rest S' h' a' w' hs')
      | false=>
       simp only [cond_true,cond_false,FT] at h
       rw [if_neg (by rw [hw]; decide)]
       exact FD hE hcf hk rest _ h _ _ (skip _ rfl)
     | false=>
      rw [FA hb] at h
      cases want with
      | true=>
       simp only [cond_true,cond_false,FT] at h
       rw [if_neg (by rw [hw]; decide)]
       exact FD hE hcf hk rest _ h _ _ (skip _ rfl)
      | false=>
       simp only [cond_false] at h
       rw [if_pos (by rw [hw]; rfl)]
       exact .inl (FY hE hcf h hs _ Q fun S' a' w' h' hs'=>FD hE hcf hk rest S' h' a' w' hs')
    ·rename_i hnb
     cases hgo:EX (nth S.tmps d) with
     |true=>rw [hgo] at h; cases h
     |false=>
     rw [hgo] at h
     obtain ⟨g,h1,h2,tr,hr⟩:=hs
     have hy:yielded all.toArray a.tmps j=none:=HW tr hd (fun b hb=>hnb b hb) hgo
     rw [if_neg (by simp [Region.wanted,hgd,hy])]
     simp only [cond_false,FT] at h
     exact FD hE hcf hk rest _ h _ _ ⟨g,h1,h2,tr.put o.dst (Clo.undef.bnd _) (by simp),hr⟩
   ·simp at h
theorem Lj {A B:Type} (φ:A→B) (fail:A) (o:Oper) (S:St) (k:St→A):φ (Fq P E fail o S k)=Fq P E (φ fail) o S fun S'=>φ (k S'):=by
 unfold Fq
 cases FL P E S.nxt o S.tmps S.heap with
 |none=>rfl
 | some rc=>
  obtain ⟨need,r⟩:=rc
  cases need with
  |false=>rfl
  | true=>
   simp only [cond_true,Jm,FT]
   cases r.ws<;>rfl
theorem Hc {A B:Type} (φ:A→B) (fail:A) (all:List Oper):∀(l:List Oper) (S:St) (k:St→A),φ (seqM P E fail all l S k)=seqM P E (φ fail) all l S fun S'=>φ (k S')
 |[],S,k=>rfl
 | o ::r,S,k=>by
  simp only [seqM]
  cases o.guard with
  |none=>simp only [Lj φ,Hc φ fail all r]
  | some jw=>
   obtain ⟨j,want⟩:=jw
   dsimp only
   cases hd:gdst all j with
   |none=>rfl
   | some d=>
    dsimp only
    split
    ·rename_i b hb
     cases b<;>cases want<;>simp only [cond_true,cond_false,Lj φ,Hc φ fail all r,FT]
    ·cases EX (nth S.tmps d)<;>simp only [cond_true,cond_false,FT,Hc φ fail all r]
theorem Gt {o:Oper} {S:St} {k k':St→Bool} (h:Fq P E false o S k=true) (hk:∀S',k S'=true→k' S'=true):Fq P E false o S k'=true:=by
 unfold Fq at h ⊢
 split at h
 ·rename_i need rr hrc
  try rw [hrc]
  cases need with
  |false=>cases h
  | true=>
   simp only [cond_true,Jm,FT] at h ⊢
   split at h
   ·exact hk _ h
   ·cases h
 ·cases h
theorem FZ (all:List Oper):∀(l:List Oper) (K:List (Nat×Bool)) (S:St) (k:St→Bool),seqN P E all l K S k=true→seqM P E false all l S k=true
 |[],K,S,k,h=>h
 | o :: r, K,S,k,h=>by
  simp only [seqN] at h
  simp only [seqM]
  cases hg:o.guard with
  | none=>
   rw [hg] at h
   exact Gt h fun S' h'=>FZ all r K S' k h'
  | some jw=>
   obtain ⟨j,want⟩:=jw
   rw [hg] at h
   dsimp only at h ⊢
   cases hd:gdst all j with
   |none=>rw [hd] at h; cases h
   | some d=>
    rw [hd] at h
    dsimp only at h ⊢
    split at h
    ·rename_i b hb
     split at h
     ·cases b<;>cases want<;>simp only [cond_true,cond_false,FT] at h ⊢
      ·cases h
      ·cases h
      ·exact FZ all r K _ k h
      ·exact Gt h fun S' h'=>FZ all r K S' k h'
     ·cases b<;>cases want<;>simp only [cond_true,cond_false,FT] at h ⊢
      ·exact Gt h fun S' h'=>FZ all r K S' k h'
      ·exact FZ all r K _ k h
      ·cases h
      ·cases h
     ·rw [both_eq] at h
      cases b<;>cases want<;>simp only [cond_true,cond_false,FT] at h ⊢
      ·exact Gt h fun S' h'=>FZ all r _ S' k h'
      ·exact FZ all r _ _ k h
      ·exact FZ all r _ _ k h
      ·exact Gt h fun S' h'=>FZ all r _ S' k h'
    ·rename_i hnb
     cases hgo:EX (nth S.tmps d) with
     |true=>rw [hgo] at h; cases h
     |false=>
     rw [hgo] at h
     simp only [cond_false,FT] at h ⊢
     exact FZ all r K _ k h
theorem No {all l:List Oper} {S:St} {k:St→Bool} (h:seqN P E all l [] S k=true):∃S',seqM P E none all l S some=some S'∧k S'=true:=by
 have h:=FZ all l [] S k h
 have:=Hc (P:=P) (E:=E) (fun x:Option St=>match x with|some S'=>k S'|none=>false) none all l S some
 simp only [] at this
 rw [←this] at h
 split at h
 ·rename_i S' hS; exact ⟨S',hS,h⟩
 ·cases h
theorem Om {A:Type} {fail:A} {all l:List Oper} {S S':St} (h:seqM P E none all l S some=some S') (k:St→A):seqM P E fail all l S k=k S':=by
 have:=Hc (P:=P) (E:=E) (fun x:Option St=>match x with|some S'=>k S'|none=>fail) none all l S some
 simp only [] at this
 rw [←this,h]
theorem Hb {cf:Nat→List Value→Heap→Nat→(Value→Heap→Nat→Option R)→Option R} {o:Oper} {S:St} {k:St→Option R} {r:R} (h:Fq P E none o S k=some r):Jt P E cf o S k=some r:=by
 unfold Fq at h
 unfold Jt
 split at h
 ·rename_i need rr hrc
  try rw [hrc]
  cases need with
  |false=>cases h
  | true=>
   simp only [cond_true,Jm,FT] at h ⊢
   split at h
   ·rename_i hws
    rw [hws]
    exact h
   ·cases h
 ·cases h
theorem Fi (hE:EnvOk P E) {all:List Oper} {Q:Exit→Act→World→Prop} {W0:World} {out:Nat→Prop} {g0:Nat→Nat} {n0:Nat} {rest:List Oper} {Sp:St}
  (hk:∀a' w',SRel W0 out g0 n0 Sp a' w'→wpList P all.toArray Q rest a' w'):∀(l:List Oper) (S:St),seqM P E none all l S some=some Sp→∀(a:Act) (w:World),SRel W0 out g0 n0 S a w→wpList P all.toArray Q (l++rest) a w
 | [],S,h,a,w,hs=>by
  simp only [seqM,zS] at h
  subst h
  exact hk a w hs
 | o :: l, S,h,a,w,hs=>by
  have hcf:CfOk (R:=St) P (fun _ _ _ _ _=>none):=fun _ _ _ _ _ _ h=>by cases h
  simp only [List.cons_append]
  unfold seqM at h
  unfold wpList
  split at h
  ·rename_i hgd
   rw [if_pos (by simp [Region.wanted,hgd])]
   exact .inl (FY hE hcf (Hb h) hs _ Q fun S' a' w' h' hs'=>Fi hE hk l S' h' a' w' hs')
  ·rename_i j want hgd
   split at h
   ·rename_i d hd
    split at h
    ·rename_i b hb
     have hy:yielded all.toArray a.tmps j=some b:=by
      obtain ⟨g,_,_,tr,_⟩:=hs
      exact IT tr hd hb
     have hw:Region.wanted o (yielded all.toArray a.tmps)=(some b==some want):=by simp [Region.wanted,hgd,hy]
     have skip:∀S',S'=(⟨putT S.tmps o.dst undef,S.heap,S.nxt⟩:St)→SRel W0 out g0 n0 S' (a.put o.dst undef) w:=by
      rintro S' rfl
      obtain ⟨g,h1,h2,tr,hr⟩:=hs
      exact ⟨g,h1,h2,tr.put o.dst (Clo.undef.bnd _) (by simp),hr⟩
     cases b with
     | true=>
      rw [FA hb] at h
      cases want with
      | true=>
       simp only [cond_true] at h
       rw [if_pos (by rw [hw]; rfl)]
       exact .inl (FY hE hcf (Hb h) hs _ Q fun S' a' w' h' hs'=>Fi hE hk l S' h' a' w' hs')
      | false=>
       simp only [cond_true,cond_false,FT] at h
       rw [if_neg (by rw [hw]; decide)]
       exact Fi hE hk l _ h _ _ (skip _ rfl)
     | false=>
      rw [FA hb] at h
      cases want with
      | true=>
       simp only [cond_true,cond_false,FT] at h
       rw [if_neg (by rw [hw]; decide)]
       exact Fi hE hk l _ h _ _ (skip _ rfl)
      | false=>
       simp only [cond_false] at h
       rw [if_pos (by rw [hw]; rfl)]
       exact .inl (FY hE hcf (Hb h) hs _ Q fun S' a' w' h' hs'=>Fi hE hk l S' h' a' w' hs')
    ·rename_i hnb
     cases hgo:EX (nth S.tmps d) with
     |true=>rw [hgo] at h; cases h
     |false=>
     rw [hgo] at h
     obtain ⟨g,h1,h2,tr,hr⟩:=hs
     have hy:yielded all.toArray a.tmps j=none:=HW tr hd (fun b hb=>hnb b hb) hgo
     rw [if_neg (by simp [Region.wanted,hgd,hy])]
     simp only [cond_false,FT] at h
     exact Fi hE hk l _ h _ _ ⟨g,h1,h2,tr.put o.dst (Clo.undef.bnd _) (by simp),hr⟩
   ·simp at h
theorem NJ {T:List Value} {i j:Nat} {v:Value} :nth (setn T i v) j=if i=j∧i<T.length then v else nth T j:=by
 rw [FQ,FI,FI,List.getD_eq_getElem?_getD,List.getD_eq_getElem?_getD,List.getElem?_set]
 by_cases hij:i=j
 ·subst hij
  by_cases hl:i<T.length
  ·simp [hl]
  ·simp [hl]
 ·simp [hij]
theorem Gj {T:List Value} {i:Nat} (h:T.length≤i):nth T i=undef:=by
 rw [FI,List.getD_eq_getElem?_getD,List.getElem?_eq_none h]; rfl
theorem ext_nth {T U:List Value} (hl:T.length=U.length) (h:∀i,nth T i=nth U i):T=U:=by
 refine List.ext_getElem hl fun i h1 h2=> ?_
 have:=h i
 rw [FI,FI,List.getD_eq_getElem?_getD,List.getD_eq_getElem?_getD,List.getElem?_eq_getElem h1,List.getElem?_eq_getElem h2] at this
 exact this
theorem Ju (T:List Value) (i:Nat) (v:Value):(setn T i v).length=T.length:=by rw [FQ]; simp
theorem Ks {T:List Value} {d:Option Nat} {v:Value} {i:Nat} (h:d≠some i):nth (putT T d v) i=nth T i:=by
 cases d with
 |none=>rfl
 | some j=>
  show nth (setn T j v) i=nth T i
  rw [NJ,if_neg (fun e=>h (by rw [e.1]))]
theorem K1 {T:List Value} {d:Option Nat} {v:Value} :(putT T d v).length=T.length:=by
 cases d with
 |none=>rfl
 |some j=>exact Ju T j v
theorem JS {V:Nat→Value} {U:List Value} :∀ {l:List Oper} {T:List Value},(∀o∈l,∀i,o.dst=some i→V i=nth U i)→U.length=T.length→(∀i,(∀o∈l,o.dst≠some i)→nth U i=nth T i)→G4 V l T=U
 |[],T,_,hl,h=>(ext_nth hl fun i=>h i (by simp)).symm
 | o ::l,T,hv,hl,h=>by
  simp only [G4]
  cases hd:o.dst with
  | none=>
   refine JS (fun o' ho=>hv o' (List.mem_cons_of_mem _ ho)) hl fun i hi=>h i fun o' ho=> ?_
   rcases List.mem_cons.1 ho with rfl|ho
   ·rw [hd]; simp
   ·exact hi o' ho
  | some j=>
   refine JS (fun o' ho=>hv o' (List.mem_cons_of_mem _ ho)) (by rw [hl]; exact (Ju _ _ _).symm) fun i hi=> ?_
   rw [NJ]
   by_cases hij:j=i∧j<T.length
   ·rw [if_pos hij,hij.1.symm]
    exact (hv o (List.mem_cons_self ..) j hd).symm
   ·rw [if_neg hij]
    by_cases hji:j=i
    ·subst hji
     have hge:T.length≤j:=Nat.le_of_not_lt fun x=>hij ⟨rfl,x⟩
     rw [Gj hge,Gj (by omega)]
    ·refine h i fun o' ho=> ?_
     rcases List.mem_cons.1 ho with rfl|ho
     ·rw [hd]; simpa using hji
     ·exact hi o' ho
theorem Mw {o:Oper} {S Sp:St} {k:St→Option St} (h:Fq P E none o S k=some Sp):∃v,k ⟨putT S.tmps o.dst v,S.heap,S.nxt+16⟩=some Sp:=by
 unfold Fq at h
 split at h
 ·rename_i need rr hrc
  cases need with
  |false=>cases h
  | true=>
   simp only [cond_true,Jm,FT] at h
   split at h
   ·exact ⟨_,h⟩
   ·cases h
 ·cases h
theorem IX {all:List Oper} :∀ {l:List Oper} {S Sp:St},seqM P E none all l S some=some Sp→Sp.heap=S.heap∧S.nxt≤Sp.nxt∧Sp.nxt≤S.nxt+16*l.length∧Sp.tmps.length=S.tmps.length∧∀i,(∀o∈l,o.dst≠some i)→nth Sp.tmps i=nth S.tmps i
 | [],S,Sp,h=>by
  simp only [seqM,zS] at h
  subst h
  simp
 | o ::l,S,Sp,h=>by
  have step:∀(T:List Value),T=S.tmps→Fq P E none o ⟨T,S.heap,S.nxt⟩ (fun S'=>seqM P E none all l S' some)=some Sp→Sp.heap=S.heap∧S.nxt≤Sp.nxt∧Sp.nxt≤S.nxt+16*(o::l).length∧Sp.tmps.length=S.tmps.length∧∀i,(∀o'∈o::l,o'.dst≠some i)→nth Sp.tmps i=nth S.tmps i:=by
   rintro T rfl h0
   obtain ⟨v,hv⟩:=Mw h0
   obtain ⟨h1,h2,h3,h4,h5⟩:=IX hv
   refine ⟨h1,by simp only [] at h2; omega,by simp only [List.length_cons] at h3 ⊢; omega,by rw [h4]; exact K1,fun i hi=> ?_⟩
   rw [h5 i fun o' ho=>hi o' (List.mem_cons_of_mem _ ho)]
   exact Ks (hi o (List.mem_cons_self ..))
  have skip:∀(T:List Value),T=S.tmps→seqM P E none all l ⟨putT T o.dst undef,S.heap,S.nxt⟩ some=some Sp→Sp.heap=S.heap∧S.nxt≤Sp.nxt∧Sp.nxt≤S.nxt+16*(o::l).length∧Sp.tmps.length=S.tmps.length∧∀i,(∀o'∈o::l,o'.dst≠some i)→nth Sp.tmps i=nth S.tmps i:=by
   rintro T rfl hv
   obtain ⟨h1,h2,h3,h4,h5⟩:=IX hv
   refine ⟨h1,h2,by simp only [List.length_cons] at h3 ⊢; omega,by rw [h4]; exact K1,fun i hi=> ?_⟩
   rw [h5 i fun o' ho=>hi o' (List.mem_cons_of_mem _ ho)]
   exact Ks (hi o (List.mem_cons_self ..))
  unfold seqM at h
  split at h
  ·exact step _ rfl h
  ·rename_i j want hgd
   split at h
   ·rename_i d hd
    split at h
    ·rename_i b hb
     cases b<;>cases want<;>simp only [cond_true,cond_false,FT] at h
     ·exact step _ (FA hb) h
     ·exact skip _ (FA hb) h
     ·exact skip _ (FA hb) h
     ·exact step _ (FA hb) h
    ·cases hgo:EX (nth S.tmps d) with
     |true=>rw [hgo] at h; cases h
     |false=>
     rw [hgo] at h
     simp only [cond_false,FT] at h
     exact skip _ rfl h
   ·cases h
theorem Qg {all s:List Oper} {p:Oper} {d:Nat} {S Sp:St} (hd:p.dst=some d) (h:seqM P E none all (s++[p]) S some=some Sp) (hb:JE d Sp=true)
  {W0:World} {out:Nat→Prop} {g0:Nat→Nat} {n0:Nat} {a:Act} {w:World} (hs:SRel W0 out g0 n0 Sp a w):SRel W0 out g0 n0 (mrgS P E all s p d S) a w:=by
 obtain ⟨h1,h2,h3,h4,h5⟩:=IX h
 have hJ:nth Sp.tmps d= .bool (seqM P E false all (s++[p]) S (Ml d)):=by
  rw [Om h]
  unfold JE at hb
  unfold Ml
  split at hb
  ·rename_i b hb'; rw [hb']
  ·cases hb
 have hT : (mrgS P E all s p d S).tmps=Sp.tmps:=by
  show setn (G4 _ s S.tmps) d _=Sp.tmps
  have key:G4 (fun i=>bif Nat.beq i d then .bool (seqM P E false all (s++[p]) S (Ml d)) else seqM P E undef all (s++[p]) S fun S'=>nth S'.tmps i) (s++[p]) S.tmps=Sp.tmps:=by
   refine JS (fun o _ i _=> ?_) h4 h5
   cases hi:Nat.beq i d with
   |true=>rw [zE hi,hJ]; rfl
   |false=>exact Om h _
  rw [←key,←hJ]
  have app:∀(V:Nat→Value) (l:List Oper) (T:List Value),G4 V (l++[p]) T=setn (G4 V l T) d (V d):=by
   intro V l
   induction l with
   |nil=>intro T; simp only [List.nil_append,G4,hd]
   |cons o l ih=>intro T; simp only [List.cons_append,G4]; exact ih _
  rw [app]
  have hdd:Nat.beq d d=true:=Nat.beq_refl d
  simp only [hdd,cond_true]
  have ow :∀(V U:Nat→Value) (x:Value) (l:List Oper) (T T':List Value),(∀i,i≠d→V i=U i)→setn T d x=setn T' d x→setn (G4 V l T) d x=setn (G4 U l T') d x:=by
   intro V U x l
   induction l with
   |nil=>intro T T' _ hTT; exact hTT
   | cons o l ih=>
    intro T T' hVU hTT
    simp only [G4]
    refine ih _ _ hVU ?_
    cases o.dst with
    |none=>exact hTT
    | some i=>
     show setn (setn T i (V i)) d x=setn (setn T' i (U i)) d x
     by_cases hid:i=d
     ·subst hid
      simp only [FQ,List.set_set] at hTT ⊢
      exact hTT
     ·rw [hVU i hid]
      simp only [FQ] at hTT ⊢
      rw [List.set_comm _ _ hid,List.set_comm _ _ hid,hTT]
  refine ow _ _ _ s _ _ (fun i hi=> ?_) rfl
  have:Nat.beq i d=false:=by
   cases hi':Nat.beq i d with
   |true=>exact absurd (zE hi') hi
   |false=>rfl
  simp only [this,cond_false]
 obtain ⟨g,hg,hn,tr,hr⟩:=hs
 have hN:Sp.nxt≤(mrgS P E all s p d S).nxt:=by
  show Sp.nxt≤S.nxt+16*(s.length+1)
  simpa using h3
 refine ⟨g,hg,Nat.le_trans hn hN,?_,?_⟩
 ·rw [hT]; exact tr.mono hN
 ·show HRel W0 out g S.heap _ w
  rw [←h1]; exact hr.mono hN
theorem K5:∀ {l s:List Oper} {p:Oper} {d:Nat} {t:List Oper},Mf l=some (s,p,d,t)→l=s++[p]++t∧p.dst=some d
 |[],s,p,d,t,h=>by cases h
 | o ::r,s,p,d,t,h=>by
  unfold Mf at h
  split at h
  ·split at h
   ·rename_i s' p' d' t' hc
    injection h with h
    injection h with h1 h2
    injection h2 with h2 h3
    injection h3 with h3 h4
    subst h1; subst h2; subst h3; subst h4
    obtain ⟨e,hd⟩:=K5 hc
    exact ⟨by rw [e]; simp,hd⟩
   ·cases h
  ·split at h
   ·rename_i hd
    injection h with h
    injection h with h1 h2
    injection h2 with h2 h3
    injection h3 with h3 h4
    subst h1; subst h2; subst h3; subst h4
    exact ⟨rfl,hd⟩
   ·cases h
theorem IW (hE:EnvOk P E) {cf:Nat→List Value→Heap→Nat→(Value→Heap→Nat→Option R)→Option R} (hcf:CfOk P cf) {all:List Oper} {Q:Exit→Act→World→Prop} {W0:World} {out:Nat→Prop} {g0:Nat→Nat} {n0:Nat} {r:R} {k:St→Option R}
  (hk:∀S' a' w',k S'=some r→SRel W0 out g0 n0 S' a' w'→Q .normal a' w'):∀(n:Nat) (rest:List Oper) (S:St),seqS P E cf all n rest S k=some r→∀(a:Act) (w:World),SRel W0 out g0 n0 S a w→wpList P all.toArray Q rest a w
 |0,l,S,h,a,w,hs=>FD hE hcf hk l S h a w hs
 |n+1,[],S,h,a,w,hs=>hk S a w h hs
 | n + 1,o::rest,S,h,a,w,hs=>by
  unfold seqS at h
  split at h
  ·rename_i hgd
   unfold wpList
   rw [if_pos (by simp [Region.wanted,hgd])]
   exact .inl (FY hE hcf h hs _ Q fun S' a' w' h' hs'=>IW hE hcf hk n rest S' h' a' w' hs')
  ·split at h
   ·rename_i s p d t hc
    obtain ⟨e,hd⟩:=K5 hc
    cases hN:seqN P E all (s++[p]) [] S (JE d) with
    | false=>
     rw [hN] at h
     exact FD hE hcf hk _ S h a w hs
    | true=>
     rw [hN] at h
     simp only [cond_true,FT] at h
     obtain ⟨Sp,hp,hbool⟩:=No hN
     rw [e]
     exact Fi hE (fun a' w' hs'=>IW hE hcf hk n t _ h a' w' (Qg hd hp hbool hs')) (s++[p]) S hp a w hs
   ·exact FD hE hcf hk _ S h a w hs
theorem FE (hE:EnvOk P E) {L:List (Nat×LSpec)} {lf:Code→St→(X→St→Option R)→Option R} {cf:Nat→List Value→Heap→Nat→(Value→Heap→Nat→Option R)→Option R} (hlf:LfOk P lf) (hcf:CfOk P cf) {N:Nat→Prop} (c:Code) (hL:LsOkn P N L c):
  ∀(S:St) (k:X→St→Option R) (r:R),exec P E L lf cf c S k=some r→
  ∀ (W0:World) (out:Nat→Prop) (g0:Nat→Nat) (n0:Nat) (a:Act) (w:World) (Q:Exit→Act→World→Prop),N n0→SRel W0 out g0 n0 S a w→
   (∀x S' a' w',k x S'=some r→SRel W0 out g0 n0 S' a' w'→Q x.to a' w')→c.wp P Q a w:=by
 induction c with
 |skip=>intro S k r h W0 out g0 n0 a w Q hN hs hk; exact wp_skip (hk .normal S a w h hs)
 | seq x y ihx ihy=>
  intro S k r h W0 out g0 n0 a w Q hN hs hk
  have hx:LsOkn P N L x:=fun p hp=>hL p (by simp only [F8,List.mem_append]; exact .inl hp)
  have hy:LsOkn P N L y:=fun p hp=>hL p (by simp only [F8,List.mem_append]; exact .inr hp)
  refine wp_seq (ihx hx S _ r h W0 out g0 n0 a w _ hN hs fun e S' a' w' h' hs'=> ?_)
  cases e with
  |normal=>exact ihy hy S' k r h' W0 out g0 n0 a' w' Q hN hs' hk
  |exit i=>exact hk (.exit i) S' a' w' h' hs'
  |ret=>exact hk .ret S' a' w' h' hs'
 | cond c x y ihx ihy=>
  intro S k r h W0 out g0 n0 a w Q hN hs hk
  have hx:LsOkn P N L x:=fun p hp=>hL p (by simp only [F8,List.mem_append]; exact .inl hp)
  have hy:LsOkn P N L y:=fun p hp=>hL p (by simp only [F8,List.mem_append]; exact .inr hp)
  unfold exec at h
  split at h
  ·rename_i t
   split at h
   ·rename_i b hb
    have hev:a.eval (.tmp t)= .bool b:=by
     obtain ⟨g,_,_,tr,_⟩:=hs
     rw [tr.eval (x:= .tmp t) (by simp [evOk,hb,EX])]
     simp [ev,hb]
    cases b with
    | true=>
     simp only [FT,cond_true] at h
     rw [FA hb] at h
     exact wp_cond_true hev (ihx hx S k r h W0 out g0 n0 a w Q hN hs hk)
    | false=>
     simp only [FT,cond_false] at h
     rw [FA hb] at h
     exact wp_cond_false hev (ihy hy S k r h W0 out g0 n0 a w Q hN hs hk)
   ·simp at h
  ·rename_i b
   cases b with
   |true=>exact wp_cond_true rfl (ihx hx S k r h W0 out g0 n0 a w Q hN hs hk)
   |false=>exact wp_cond_false rfl (ihy hy S k r h W0 out g0 n0 a w Q hN hs hk)
  ·simp at h
 | block id x ihx=>
  intro S k r h W0 out g0 n0 a w Q hN hs hk
  have hx:LsOkn P N L x:=fun p hp=>hL p (by simp only [F8,List.mem_append]; exact .inr hp)
  have fin:∀(e:X) (S':St) (a':Act) (w':World),blkK id k e S'=some r→SRel W0 out g0 n0 S' a' w'→Exit.inBlock id Q e.to a' w':=by
   intro e S' a' w' h' hs'
   cases e with
   |normal=>exact hk .normal S' a' w' h' hs'
   | exit i=>
    simp only [blkK] at h'
    show (if i=id then Q .normal a' w' else Q (.exit i) a' w')
    cases hb:Nat.beq i id with
    | true=>
     have:=zE hb
     rw [hb] at h'
     rw [if_pos this]
     exact hk .normal S' a' w' h' hs'
    | false=>
     have hne:i≠id:=fun e=>by subst e; simp at hb
     rw [hb] at h'
     rw [if_neg hne]
     exact hk (.exit i) S' a' w' h' hs'
   |ret=>exact hk .ret S' a' w' h' hs'
  unfold exec at h
  split at h
  ·exact wp_block (ihx hx S _ r h W0 out g0 n0 a w _ hN hs fun e S' a' w' h' hs'=>fin e S' a' w' h' hs')
  ·rename_i t ht
   cases x<;>simp only [toldL] at ht<;>try (cases ht)
   rename_i c
   have hok:=hL (id,c) (by simp [F8]) t ht
   split at h
   ·rename_i lt hts
    obtain ⟨e,S',hat,hk'⟩:=O1 h
    exact wp_block (hok S lt e S' hts hat W0 out g0 n0 a w _ hN hs fun a' w' hs'=>fin e S' a' w' hk' hs')
   ·simp at h
 |loop c _=>intro S k r h W0 out g0 n0 a w Q hN hs hk; exact hlf c S k r h W0 out g0 n0 a w Q hs hk
 |exit id=>intro S k r h W0 out g0 n0 a w Q hN hs hk; exact wp_exit (hk (.exit id) S a w h hs)
 |ret=>intro S k r h W0 out g0 n0 a w Q hN hs hk; exact wp_ret (hk .ret S a w h hs)
 | region id ops d=>
  intro S k r h W0 out g0 n0 a w Q hN hs hk
  unfold exec at h
  cases d with
  | false=>
   refine wp_region_list ?_
   simp only [cond_false] at h
   have:=fun h=>IW hE hcf (all:=ops.toList) (Q:=Q) (fun S' a' w' h' hs'=>hk .normal S' a' w' h' hs') ops.size ops.toList S h a w hs
   have that:=fun h=>FD hE hcf (all:=ops.toList) (Q:=Q) (fun S' a' w' h' hs'=>hk .normal S' a' w' h' hs') ops.toList S h a w hs
   cases hm:E.merges with
   |true=>rw [hm] at h; simpa using this h
   |false=>rw [hm] at h; simpa using that h
  | true=>
   obtain ⟨g,h1,h2,tr,hr⟩:=hs
   refine NY hE.spec hE.mixed h tr hr fun S' g' a' w' h' hag hle tr' hr'=> ?_
   exact hk .normal S' a' w' h' ⟨g',fun n hn=>by rw [hag n (by omega),h1 n hn],by omega,tr',hr'⟩
 |_=>intro S k r h; simp [exec] at h
theorem Ng {g:Nat→Nat} {S:St} {W0:World} {out:Nat→Prop} {a:Act} {w:World} (tr:TRel g S.tmps S.nxt a) (hr:HRel W0 out g S.heap S.nxt w):∀(rs:List ResultVar) (vs:List Value),ress P S rs=some vs→∀v∈vs,Bnd S.nxt v
 | [],vs,h=>by
  simp only [ress,zS] at h
  subst h; simp
 | x ::rs,vs,h=>by
  simp only [ress] at h
  split at h
  ·rename_i v vs' hv hvs
   injection h with h; subst h
   intro u hu
   cases hu with
   |tail _ hu=>exact Ng tr hr rs vs' hvs u hu
   | head=>
    cases x with
    | tmp t=>
     simp only [resV] at hv
     cases hgo:EX (nth S.tmps t) with
     |true=>rw [hgo] at hv; cases hv
     |false=>
     rw [hgo] at hv
     simp only [cond_false,zS] at hv
     subst hv
     exact tr.bndEv (.tmp t)
    | cell b t=>
     simp only [resV] at hv
     split at hv
     ·unfold JB at hv
      split at hv
      ·rename_i hlk
       exact I1 hv (hr.bnd _ _ hlk)
      ·simp at hv
     ·simp at hv
  ·simp at h
theorem QP {g:Nat→Nat} {S:St} {W0:World} {out:Nat→Prop} {a:Act} {w:World} (tr:TRel g S.tmps S.nxt a) (hr:HRel W0 out g S.heap S.nxt w) {b:Tmp} {t:TypeId} {v:Value} (hv:resV P S (.cell b t)=some v):
  (do loadVar t (←asAddr (a.tmps.getD b undef)):Sem Value).run P w= .ok (ren g v) w:=by
 simp only [resV] at hv
 split at hv
 ·rename_i bl off hb
  unfold JB at hv
  split at hv
  ·rename_i C ty hlk
   have hm:=hr.mem bl _ hlk
   have he:a.tmps.getD b undef= .pointer (some ⟨g bl,off,none⟩):=by rw [tr.nth b (by rw [hb]; rfl),hb]; simp
   rw [he]
   simp only [Sem.run_bind,asAddr,Sem.run_pure,Result.andThen_ok]
   exact run_loadVar hm (Fm g hv)
  ·simp at hv
 ·simp at hv
theorem N2 {g:Nat→Nat} {S:St} {w:World} (F:ResultVar→Sem Value) (hF:∀x v,resV P S x=some v→(F x).run P w= .ok (ren g v) w):∀(rs:List ResultVar) (vs:List Value),ress P S rs=some vs→(rs.mapM F).run P w= .ok (vs.map (ren g)) w
 | [],vs,h=>by
  simp only [ress,zS] at h
  subst h; simp
 | x ::rs,vs,h=>by
  simp only [ress] at h
  split at h
  ·rename_i v vs' hv hvs
   injection h with h; subst h
   simp only [List.mapM_cons,Sem.run_bind,hF x v hv,Result.andThen_ok,N2 F hF rs vs' hvs,Sem.run_pure,List.map_cons]
  ·simp at h
theorem Pc (g:Nat→Nat) (vs:List Value):ren g (IR vs)=IR (vs.map (ren g)):=by
 unfold IR
 split
 ·simp
 ·rename_i hne
  rw [FU]
  split
  ·rename_i v hv
   exfalso
   match vs,hv with
   |[x],_=>exact hne x rfl
  ·rfl
theorem Q7 {n:Nat} {vs:List Value} (h:∀v∈vs,Bnd n v):Bnd n (IR vs):=by
 unfold IR
 split
 ·exact h _ (by simp)
 ·exact Bnd.tuple h
theorem MR:∀(n:Nat) (vs:List Value),pad n vs=vs++List.replicate (n-vs.length) undef
 |0,vs=>by simp [pad]
 |n+1,[]=>by simp [pad,MR n [],List.replicate_succ]
 |n+1,v::r=>by simp [pad,MR n r]
theorem GG (hE:EnvOk P E) {L:List (Nat×LSpec)} {lf:Code→St→(X→St→Option R)→Option R} {cf:Nat→List Value→Heap→Nat→(Value→Heap→Nat→Option R)→Option R} (hlf:LfOk P lf) (hcf:CfOk P cf) {f:FuncId} {fn:Func} (hf:P.funcs[f]? =some fn)
  {vs:List Value} {H:Heap} {nx:Nat} {k:Value→Heap→Nat→Option R} {r:R} {N:Nat→Prop} (hL:∀c,fn.body=some c→LsOkn P N L c) (hN:N nx) (h:Jn P E L lf cf fn vs H nx k=some r)
  {W0:World} {out:Nat→Prop} {g:Nat→Nat} {w:World} (hr:HRel W0 out g H nx w) (hb:∀v∈vs,Bnd nx v):
  Calls P f ⟨vs.map (ren g)⟩ w fun e w'=>∃(v:Value) (g':Nat→Nat) (H':Heap) (nx':Nat),e= .returned (ren g' v)∧k v H' nx'=some r∧(∀n,n<nx→g' n=g n)∧nx≤nx'∧HRel W0 out g' H' nx' w'∧Bnd nx' v:=by
 unfold Jn at h
 split at h
 ·rename_i c hbody
  refine calls_of_wp hf hbody ?_
  simp only [FT,NS] at h
  have hs:SRel W0 out g nx ⟨pad fn.ntmps vs,H,nx⟩ {tmps:=⟨vs.map (ren g)⟩++Array.replicate (fn.ntmps-(⟨vs.map (ren g)⟩:Array Value).size) undef,defers:=[]} w:=by
   refine ⟨g,fun _ _=>rfl,Nat.le_refl _,TRel.of ?_ rfl ?_,hr⟩
   ·simp [MR]
   ·intro v hv
    rw [MR] at hv
    simp only [List.mem_append,List.mem_replicate] at hv
    rcases hv with hv|⟨_,rfl⟩
    ·exact hb v hv
    ·exact Clo.undef.bnd _
  refine FE hE hlf hcf c (hL c hbody) _ _ r h W0 out g nx _ w _ hN hs fun x S a w' hx hs'=> ?_
  obtain ⟨g',hg',hn',tr',hr'⟩:=hs'
  have fin:∀rs,ress P S fn.results.toList=some rs→k (IR rs) S.heap S.nxt=some r→
    a.defers=[]∧∃v,(results fn a.tmps).run P w'= .ok v w'∧∃(v':Value) (g':Nat→Nat) (H':Heap) (nx':Nat),Ending.returned v= .returned (ren g' v')∧k v' H' nx'=some r∧(∀n,n<nx→g' n=g n)∧nx≤nx'∧HRel W0 out g' H' nx' w'∧Bnd nx' v':=by
   intro rs hrs hkk
   have h1:=Ng tr' hr' _ _ hrs
   refine ⟨tr'.df,ren g' (IR rs),?_,IR rs,g',S.heap,S.nxt,rfl,hkk,hg',hn',hr',Q7 h1⟩
   unfold results
   rw [Array.mapM_eq_mapM_toList]
   simp only [Sem.run_bind,Sem.run_map]
   rw [N2 (g:=g') (S:=S) _ (fun x v hv=>by
    cases x with
    | tmp t=>
     simp only [resV] at hv
     cases hgo:EX (nth S.tmps t) with
     |true=>rw [hgo] at hv; cases hv
     |false=>
     rw [hgo] at hv
     simp only [cond_false,zS] at hv
     subst hv
     simp only [Sem.run_pure,tr'.nth t hgo]
    |cell b t=>exact QP tr' hr' hv) _ _ hrs]
   simp only [Result.andThen_ok,Sem.run_pure,Result.ok.injEq,and_true]
   rw [Pc]
   generalize rs.map (ren g')=l
   match l with
   |[]=>rfl
   |[x]=>rfl
   |x::y::l=>simp [IR]
  cases x with
  | normal=>
   simp only at hx
   split at hx
   ·rename_i rs hrs
    exact fin rs hrs hx
   ·simp at hx
  |exit i=>simp at hx
  | ret=>
   simp only at hx
   split at hx
   ·rename_i rs hrs
    exact fin rs hrs hx
   ·simp at hx
 ·simp at h
theorem hs_ok (hE:EnvOk P E):∀n,(∀(c:Code) (S:St) (k:X→St→Option R) (r:R),(hs P E (R:=R) n).lf c S k=some r→
  ∀ (W0:World) (out:Nat→Prop) (g0:Nat→Nat) (n0:Nat) (a:Act) (w:World) (Q:Exit→Act→World→Prop),SRel W0 out g0 n0 S a w→
   (∀x S' a' w',k x S'=some r→SRel W0 out g0 n0 S' a' w'→Q x.to a' w')→Code.rounds P c Q n a w)∧CfOk P (hs P E (R:=R) n).cf:=by
 intro n
 induction n with
 | zero=>
  refine ⟨fun c S k r h=> ?_,fun f vs H nx k r h=> ?_⟩
  ·simp [hs] at h
  ·simp [hs] at h
 | succ n ih=>
  obtain ⟨ih1,ih2⟩:=ih
  have hlf:LfOk P (hs P E (R:=R) n).lf:=fun c S k r h W0 out g0 n0 a w Q hsr hk=>wp_loop_rounds n (ih1 c S k r h W0 out g0 n0 a w Q hsr hk)
  refine ⟨fun c S k r h W0 out g0 n0 a w Q hsr hk=> ?_,fun f vs H nx k r h=> ?_⟩
  ·rw [rounds_succ]
   refine FE (N:=fun _=>True) hE hlf ih2 c Bs S _ r h W0 out g0 n0 a w _ trivial hsr fun x S' a' w' hx hs'=> ?_
   cases x with
   |normal=>exact ih1 c S' k r hx W0 out g0 n0 a' w' Q hs' hk
   |exit i=>exact hk (.exit i) S' a' w' hx hs'
   |ret=>exact hk .ret S' a' w' hx hs'
  ·simp only [hs] at h
   split at h
   ·rename_i fn hfn
    obtain ⟨h1,h2,h3⟩:=hE.inl f fn hfn
    exact ⟨⟨fn,h1,h2,h3⟩,fun W0 out g w hr hb=>GG hE hlf ih2 h1 (hE.lps f fn hfn) trivial h hr hb⟩
   ·simp at h
theorem Hj (hE:EnvOk P E) (n:Nat):LfOk P (hs P E (R:=R) n).lf:=fun c S k r h W0 out g0 n0 a w Q hsr hk=>wp_loop_rounds n ((hs_ok hE n).1 c S k r h W0 out g0 n0 a w Q hsr hk)
theorem Hk (hE:EnvOk P E) (n:Nat):CfOk P (hs P E (R:=R) n).cf:=(hs_ok hE n).2
end
end RX
end
