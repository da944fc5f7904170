/- A part of what the law's proof leans on. PACKED BY pack.py of this repo. -/
import Derived.Test.YtpejalpgficopaaGreatDoorF0
set_option linter.unusedVariables false
set_option linter.unusedSimpArgs false
set_option linter.unusedSectionVars false
set_option linter.defProp false
set_option maxRecDepth 100000
open Go.IntKind (i64 u64 u32)
section
namespace RX
open Go Go.RowKit
abbrev HSpec:=List Value→List Blk→Option (Bool×Value×List Blk)
inductive X where
 |normal
 |exit (id:Nat)
 |ret
def X.to:X→Exit
 | .normal=> .normal
 | .exit i=> .exit i
 | .ret=> .ret
inductive LT where
 |got (need:Bool) (x:X) (S:St)
 |br (b:Bool) (l r:LT)
def LT.at:LT→Option (X×St)
 | .got need x S=>bif need then some (x,S) else none
 | .br b l r=>bif b then l.at else r.at
abbrev LSpec:=St→Option LT
abbrev LSpec1:=St→Option (Bool×X×St)
def one1 (t:LSpec1):LSpec:=fun S=>match t S with|some (need,x,S')=>some (.got need x S')|none=>none
structure Env where
 spec:List (Nat×HSpec)
 inl:List (Nat×Func)
 lps:List (Nat×List (Nat×LSpec))
def Blk.clo:Blk→Bool
 | .cs l _=>l.all (RX.clo 8)
 | .is _ _ _=>true
theorem Blk.clo_spec {b:Blk} (h:b.clo=true):∀c∈b.cells,Clo c:=by
 cases b with
 | cs l t=>
  simp only [Blk.clo,List.all_eq_true] at h
  exact fun c hc=>RX.clo_spec 8 c (h c hc)
 | is k xs t=>
  intro c hc
  obtain ⟨n,_,rfl⟩:=List.mem_map.1 hc
  exact fun g=>by simp
theorem map_clo {l:List Value} (h:∀c∈l,Clo c) (g:Nat→Nat):l.map (ren g)=l:=by
 calc l.map (ren g)=l.map id:=List.map_congr_left fun c hc=>h c hc g
  _=l:=by simp
structure SOK (P:Program) (f:FuncId) (s:HSpec):Prop where
 enter:∃fn,P.funcs[f]? =some fn∧fn.name≠ "runtime.NumGoroutine" ∧fn.body.isSome=true
 run :∀(vs:List Value) (bl:List Blk) (v:Value) (bl':List Blk),s vs bl=some (true,v,bl')→(∀b∈bl,∀c∈b.cells,Clo c)→∀(g:Nat→Nat) (w:World),
  (∀i b,bl[i]? =some b→w.heap[g i]? =some (.cells ⟨b.cells⟩ b.ty (0,0)))→(∀i j,i<bl.length→j<bl.length→g i=g j→i=j)→TabOk w→(∀i,i<bl.length→∀x∈TB,g i≠x.1)→
  Calls P f ⟨vs.map (ren g)⟩ w fun e w'=>∃g':Nat→Nat,(∀i,i<bl.length→g' i=g i)∧e= .returned (ren g' v)∧(∀i b,bl'[i]? =some b→w'.heap[g' i]? =some (.cells ⟨b.cells⟩ b.ty (0,0)))∧
   (∀i,bl.length≤i→i<bl'.length→w.heap.size≤g' i)∧(∀i j,bl.length≤i→i<bl'.length→bl.length≤j→j<bl'.length→g' i=g' j→i=j)∧Keep w (fun k=>∃i,i<bl.length∧k=g i) w'
def ptrN:Value→Option Nat
 | .pointer (some ⟨b,_,none⟩)=>some b
 | .slice (some ⟨b,_,none⟩) _ _=>some b
 |_=>none
def memN (n:Nat):List Nat→Bool
 |[]=>false
 |m::r=>bif Nat.beq n m then true else memN n r
theorem F5 {n:Nat} :∀ {l:List Nat},memN n l=true↔n∈l
 |[]=>by simp [memN]
 | m ::r=>by
  simp only [memN,List.mem_cons]
  cases h:Nat.beq n m with
  |true=>simp [zE h]
  | false=>
   have:n≠m:=fun e=>by subst e; simp at h
   simp [this,F5 (l:=r)]
def dedup:List Nat→List Nat
 |[]=>[]
 |n::r=>bif memN n r then dedup r else n::dedup r
theorem I9 {n:Nat} :∀ {l:List Nat},n∈dedup l↔n∈l
 |[]=>by simp [dedup]
 | m ::r=>by
  simp only [dedup]
  cases h:memN m r with
  | true=>
   have:=F5.1 h
   simp only [cond_true,I9 (l:=r),List.mem_cons]
   constructor
   ·exact .inr
   ·rintro (rfl|h1)
    ·exact this
    ·exact h1
  |false=>simp [I9 (l:=r)]
theorem Gc:∀(l:List Nat),(dedup l).Nodup
 |[]=>by simp [dedup]
 | m ::r=>by
  simp only [dedup]
  cases h:memN m r with
  |true=>simpa using Gc r
  | false=>
   simp only [cond_false,List.nodup_cons,I9]
   refine ⟨fun hm=> ?_,Gc r⟩
   rw [F5.2 hm] at h
   cases h
def idx (n:Nat):List Nat→Nat
 |[]=>0
 |m::r=>bif Nat.beq n m then 0 else idx n r+1
theorem KO {n:Nat} :∀ {l:List Nat},n∈l→l[idx n l]? =some n
 |[],h=>by cases h
 | m ::r,h=>by
  simp only [idx]
  cases hb:Nat.beq n m with
  |true=>simp [zE hb]
  | false=>
   have hne:n≠m:=fun e=>by subst e; simp at hb
   have:n∈r:=by
    cases h with
    |head=>exact absurd rfl hne
    |tail _ h=>exact h
   simpa using KO this
def canV (ns:List Nat):Value→Value
 | .pointer (some ⟨b,o,s⟩)=> .pointer (some ⟨idx b ns,o,s⟩)
 | .slice (some ⟨b,o,s⟩) l c=> .slice (some ⟨idx b ns,o,s⟩) l c
 |v=>v
def Ni:Value→Bool
 | .pointer (some ⟨_,_,none⟩)=>true
 | .slice (some ⟨_,_,none⟩) _ _=>true
 |v=>clo 8 v
theorem can_ren (g g':Nat→Nat) {ns:List Nat} (hg:∀(i n:Nat),ns[i]? =some n→g' i=g n) {v:Value} (h:Ni v=true) (hm:∀n,ptrN v=some n→n∈ns):ren g' (canV ns v)=ren g v:=by
 unfold Ni at h
 split at h
 ·rename_i b o
  have:=hg _ _ (KO (hm b rfl))
  simp [canV,this]
 ·rename_i b o l c
  have:=hg _ _ (KO (hm b rfl))
  simp [canV,this]
 ·have hc:=clo_spec 8 v h
  have:canV ns v=v:=by
   unfold canV
   split
   ·exact absurd h (by simp [clo])
   ·exact absurd h (by simp [clo])
   ·rfl
  rw [this,hc g',hc g]
def getB (H:Heap):List Nat→Option (List Blk)
 |[]=>some []
 | n::r=>match look H n,getB H r with
  |some b,some l=>some (b::l)
  |_,_=>none
theorem Hm {H:Heap} :∀ {ns:List Nat} {bl:List Blk},getB H ns=some bl→bl.length=ns.length∧∀(i:Nat) (b:Blk),bl[i]? =some b→∃n,ns[i]? =some n∧look H n=some b
 |[],bl,h=>by simp [getB] at h; subst h; simp
 | n ::r,bl,h=>by
  simp only [getB] at h
  split at h
  ·rename_i b l hb hl
   injection h with h; subst h
   obtain ⟨h1,h2⟩:=Hm hl
   refine ⟨by simp [h1],fun i b' hi=> ?_⟩
   cases i with
   |zero=>simp at hi; subst hi; exact ⟨n,by simp,hb⟩
   |succ i=>simpa using h2 i b' (by simpa using hi)
  ·simp at h
def GA:List Blk→List Blk→Bool
 |[],[]=>true
 |a::r,b::s=>Nat.beq a.ty b.ty&&GA r s
 |_,_=>false
theorem Jv:∀ {a b:List Blk},GA a b=true→a.length=b.length∧∀(i:Nat) x y,a[i]? =some x→b[i]? =some y→x.ty=y.ty
 |[],[],_=>by simp
 | a::r,b::s,h=>by
  simp only [GA,zB] at h
  obtain ⟨h1,h2⟩:=Jv h.2
  refine ⟨by simp [h1],fun i x y hx hy=> ?_⟩
  cases i with
  |zero=>simp at hx hy; subst hx; subst hy; exact zE h.1
  |succ i=>exact h2 i x y (by simpa using hx) (by simpa using hy)
 |[],_::_,h=>by simp [GA] at h
 |_::_,[],h=>by simp [GA] at h
def okN (m:Nat):Nat→Value→Bool
 |0,_=>false
 | n+1,v=>
  match v with
  | .bool _| .int _ _| .float _ _| .complex _ _ _| .string _| .nilFunc| .nilIface=>true
  | .pointer none=>true
  | .pointer (some ⟨b,_,none⟩)=>Nat.blt b m
  | .slice none _ _=>true
  | .slice (some ⟨b,_,none⟩) _ _=>Nat.blt b m
  | .agg ⟨cs⟩=>cs.all (okN m n)
  | .tuple ⟨cs⟩=>cs.all (okN m n)
  | .func _ ⟨f⟩ ⟨c⟩=>f.all (okN m n)&&c.all (okN m n)
  | .iface _ v=>okN m n v
  |_=>false
theorem J3 {m:Nat} {g h k:Nat→Nat} (e:∀i,i<m→g (h i)=k i):∀(n:Nat) (v:Value),okN m n v=true→ren g (ren h v)=ren k v:=by
 intro n
 induction n with
 |zero=>intro v hv; simp [okN] at hv
 | succ n ih=>
  have hl:∀l:List Value,l.all (okN m n)=true→(l.map (ren h)).map (ren g)=l.map (ren k):=fun l hl=>by
   rw [List.all_eq_true] at hl
   rw [List.map_map]
   exact List.map_congr_left fun v hv=>ih v (hl v hv)
  intro v hv
  unfold okN at hv
  split at hv
  all_goals try simp only [ren_bool,Ix,ren_string,Jy,Iw,Ko,HD]
  ·simp [ren]
  ·simp [ren]
  ·simp [e _ (by simpa [Nat.blt_eq] using hv)]
  ·simp [e _ (by simpa [Nat.blt_eq] using hv)]
  ·rw [ren_agg,ren_agg,ren_agg,hl _ hv]
  ·rw [FU,FU,FU,hl _ hv]
  ·simp only [zB] at hv
   rw [Ff,Ff,Ff,hl _ hv.1,hl _ hv.2]
  ·rw [GK,GK,GK,ih _ hv]
  ·simp at hv
def sig (ns:List Nat) (nm i:Nat):Nat:=match ns[i]? with|some n=>n|none=>nm+(i-ns.length)
def newB (nm:Nat):Nat→List Blk→List (Nat×Blk)
 |_,[]=>[]
 |j,b::r=>(nm+j,b)::newB nm (j+1) r
def H8:List Blk→List Blk→Bool
 |[],_=>true
 |a::r,b::s=>Nat.beq a.ty b.ty&&H8 r s
 |_,_=>false
theorem Iu:∀ {a b:List Blk},H8 a b=true→a.length≤b.length∧GA a (b.take a.length)=true
 |[],b,_=>by simp [GA]
 | a::r,b::s,h=>by
  simp only [H8,zB] at h
  obtain ⟨h1,h2⟩:=Iu h.2
  refine ⟨by simpa using h1,?_⟩
  simp only [List.length_cons,List.take_succ_cons,GA,zB]
  exact ⟨h.1,h2⟩
 |a::r,[],h=>by simp [H8] at h
def Jo (nm:Nat) (s:HSpec) (vs:List Value) (H:Heap):Option Rc:=
 bif vs.all Ni then
  match getB H (dedup (vs.filterMap ptrN)) with
  | some bl=>
   bif bl.all Blk.clo then
    match s (vs.map (canV (dedup (vs.filterMap ptrN)))) bl with
    | some (n,v,bl')=>bif clo 8 v&&GA bl bl'&&bl'.all Blk.clo then some ⟨n,⟨v,dedup (vs.filterMap ptrN),(dedup (vs.filterMap ptrN)).zip bl'⟩⟩
     else bif okN bl'.length 8 v&&H8 bl bl'&&bl'.all Blk.clo&&Nat.ble bl'.length (bl.length+16) then some ⟨n,⟨ren (sig (dedup (vs.filterMap ptrN)) nm) v,dedup (vs.filterMap ptrN),(dedup (vs.filterMap ptrN)).zip (bl'.take bl.length)++newB nm 0 (bl'.drop bl.length)⟩⟩
     else none
    |none=>none
   else none
  |none=>none
 else none
theorem Gx:∀ {l:List Nat},l.Nodup→∀ {i j:Nat} (hi:i<l.length) (hj:j<l.length),l[i]=l[j]→i=j
 |[],_,i,j,hi,_,_=>by simp at hi
 | a ::l,h,i,j,hi,hj,e=>by
  simp only [List.nodup_cons] at h
  cases i with
  | zero=>
   cases j with
   |zero=>rfl
   | succ j=>
    simp only [List.getElem_cons_zero,List.getElem_cons_succ] at e
    exact absurd (by rw [e]; exact List.getElem_mem _) h.1
  | succ i=>
   cases j with
   | zero=>
    simp only [List.getElem_cons_zero,List.getElem_cons_succ] at e
    exact absurd (by rw [←e]; exact List.getElem_mem _) h.1
   | succ j=>
    simp only [List.getElem_cons_succ] at e
    rw [Gx h.2 (by simpa using hi) (by simpa using hj) e]
theorem Gy {n:Nat} :∀(ws:List (Nat×Blk)) (H:Heap),(∀b,(n,b) ∉ ws)→look (app ws H) n=look H n
 |[],H,_=>rfl
 | (m,b)::r,H,h=>by
  have hm:n≠m:=fun e=>h b (by subst e; simp)
  show look (app r (upd H m b)) n=_
  rw [Gy r _ (fun b hb=>h b (by simp [hb])),Em,if_neg hm]
theorem HG {n:Nat} {b:Blk} :∀(ws:List (Nat×Blk)) (H:Heap),(ws.map (·.1)).Nodup→(n,b)∈ws→look (app ws H) n=some b
  | (m,c)::r,H,hn,h=>by
    simp only [List.map_cons,List.nodup_cons] at hn
    show look (app r (upd H m c)) n=_
    cases h with
    | head=>
      rw [Gy r _ (fun b hb=>hn.1 (List.mem_map.2 ⟨(n,b),hb,rfl⟩)),Em,if_pos rfl]
    |tail _ h=>exact HG r _ hn.2 h
theorem MC {α β:Type} :∀(l:List α) (m:List β),l.length≤m.length→(l.zip m).map (·.1)=l
 |[],_,_=>by simp
 |a::l,b::m,h=>by simp [MC l m (by simpa using h)]
 |a::l,[],h=>by simp at h
theorem Nd {W0:World} {out:Nat→Prop} {g:Nat→Nat} {H:Heap} {nx:Nat} {w w':World} {ns:List Nat} {bl bl':List Blk} (hr:HRel W0 out g H nx w) (hd:ns.Nodup) (hb:getB H ns=some bl) (ht:GA bl bl'=true)
  (hc:∀b∈bl',∀c∈b.cells,Clo c) (hm:∀(i n:Nat) b,ns[i]? =some n→bl'[i]? =some b→w'.heap[g n]? =some (.cells ⟨b.cells⟩ b.ty (0,0)))
  (hk:Keep w (fun k=>∃n∈ns,k=g n) w'):HRel W0 out g (app (ns.zip bl') H) nx w':=by
 obtain ⟨hl,hget⟩:=Hm hb
 obtain ⟨hl',hty⟩:=Jv ht
 have hfst:(ns.zip bl').map (·.1)=ns:=MC _ _ (by omega)
 have cases_:∀n b,look (app (ns.zip bl') H) n=some b→(∃i:Nat,ns[i]? =some n∧bl'[i]? =some b∧∃c,look H n=some c)∨(n ∉ ns∧look H n=some b):=by
  intro n b h
  by_cases hn:n∈ns
  ·obtain ⟨i,hi,rfl⟩:=List.getElem_of_mem hn
   have hi':i<bl'.length:=by omega
   have hz:(ns[i],bl'[i])∈ns.zip bl':=by
    have hz0:i<(ns.zip bl').length:=by rw [List.length_zip]; omega
    have:=List.getElem_mem hz0
    rwa [List.getElem_zip] at this
   rw [HG _ _ (by rw [hfst]; exact hd) hz] at h
   injection h with h
   obtain ⟨m,hm1,hm2⟩:=hget i bl[i] (List.getElem?_eq_getElem (by omega))
   rw [List.getElem?_eq_getElem hi] at hm1
   injection hm1 with hm1
   refine .inl ⟨i,List.getElem?_eq_getElem hi,by rw [List.getElem?_eq_getElem hi',h],bl[i],by rw [hm1]; exact hm2⟩
  ·rw [Gy _ _ (fun b hb=>hn (List.of_mem_zip hb).1)] at h
   exact .inr ⟨hn,h⟩
 have old:∀n b,look (app (ns.zip bl') H) n=some b→∃c,look H n=some c:=fun n b h=>by
  rcases cases_ n b h with ⟨_,_,_,h⟩|⟨_,h⟩
  ·exact h
  ·exact ⟨b,h⟩
 refine ⟨fun n b h=> ?_,fun n b h=> ?_,fun n b h=> ?_,fun n m b c h1 h2 e=> ?_,fun n b h=> ?_,?_,?_,fun n b h=> ?_⟩
 ·obtain ⟨c,hc⟩:=old n b h; exact hr.dom n c hc
 ·rcases cases_ n b h with ⟨i,h1,h2,_⟩|⟨_,h⟩
  ·exact fun v hv=>(hc b (List.mem_of_getElem? h2) v hv).bnd nx
  ·exact hr.bnd n b h
 ·rcases cases_ n b h with ⟨i,h1,h2,_⟩|⟨hn,h⟩
  ·rw [hm i n b h1 h2,map_clo (hc b (List.mem_of_getElem? h2))]
  ·have h0:=hr.mem n b h
   rw [hk.block _ (Eu h0) ?_,h0]
   rintro ⟨m,hm1,he⟩
   obtain ⟨i,hi,rfl⟩:=List.getElem_of_mem hm1
   obtain ⟨m',hm3,hm4⟩:=hget i bl[i] (List.getElem?_eq_getElem (by omega))
   rw [List.getElem?_eq_getElem hi] at hm3
   injection hm3 with hm3
   rw [←hm3] at hm4
   exact hn (hr.inj n ns[i] b _ h hm4 he▸List.getElem_mem hi)
 ·obtain ⟨b',hb'⟩:=old n b h1
  obtain ⟨c',hc'⟩:=old m c h2
  exact hr.inj n m b' c' hb' hc' e
 ·obtain ⟨c,hc⟩:=old n b h; exact hr.own n c hc
 ·refine hr.keep.trans hk fun k hk1 ⟨n,hn,he⟩=> ?_
  obtain ⟨i,hi,rfl⟩:=List.getElem_of_mem hn
  obtain ⟨m',hm3,hm4⟩:=hget i bl[i] (List.getElem?_eq_getElem (by omega))
  rw [List.getElem?_eq_getElem hi] at hm3
  injection hm3 with hm3
  rw [←hm3] at hm4
  rcases hr.own _ _ hm4 with ho|ho
  ·omega
  ·rw [he]; exact ho
 ·refine hr.tabs.of fun x hx=>hk.block x.1 (by obtain ⟨o,h1,_⟩:=hr.tabs x hx; exact Eu h1) ?_
  rintro ⟨n,hn,he⟩
  obtain ⟨i,hi,rfl⟩:=List.getElem_of_mem hn
  obtain ⟨m',hm3,hm4⟩:=hget i bl[i] (List.getElem?_eq_getElem (by omega))
  rw [List.getElem?_eq_getElem hi] at hm3
  injection hm3 with hm3
  rw [←hm3] at hm4
  exact hr.ntab _ _ hm4 x hx he.symm
 ·obtain ⟨c,hc⟩:=old n b h; exact hr.ntab n c hc
section
variable {P:Program} {o:Oper} {nm nx:Nat} {T:List Value} {H:Heap}
theorem MK {f:FuncId} {fn:Func} (h:P.funcs[f]? =some fn) (hn:fn.name≠ "runtime.NumGoroutine") (hb:fn.body.isSome=true) (args:Array Value) (w:World):(callFunc f args).run P w= .ok (.enter f args) w:=by
 have h2:fn.body.isNone=false:=by
  cases hx:fn.body with
  |none=>simp [hx] at hb
  |some c=>rfl
 have hb':fn.body≠none:=fun e=>by simp [e] at h2
 simp [callFunc,program,Sem.run,h,hn,hb']
theorem Ll {c:Call} {x:Operand} {f:FuncId} {first cap:List Value} {g:Nat→Nat} {a:Act} {w:World} {fn:Func} (ho:o.op= .call c) (hc:c.callee= .value x) (hx:evOk T x=true) (ha:∀y∈c.args.toList,evOk T y=true)
  (tr:TRel g T nx a) (hv:ev T x= .func (.func f) ⟨first⟩ ⟨cap⟩) (h:P.funcs[f]? =some fn) (hn:fn.name≠ "runtime.NumGoroutine") (hb:fn.body.isSome=true):
  (execOp a.eval o).run P w= .ok (.enter f ⟨(first++c.args.toList.map (ev T)++cap).map (ren g)⟩) w:=by
 have hex:a.eval x= .func (.func f) ⟨first.map (ren g)⟩ ⟨cap.map (ren g)⟩:=by rw [tr.eval hx,hv]; simp
 have e1:c.args.map a.eval=⟨(c.args.toList.map (ev T)).map (ren g)⟩:=by
  apply Array.toList_inj.1
  rw [Array.toList_map,List.map_map]
  exact List.map_congr_left fun x hx=>tr.eval (ha x hx)
 have e2:(⟨first.map (ren g)⟩:Array Value)++c.args.map a.eval++⟨cap.map (ren g)⟩=⟨(first++c.args.toList.map (ev T)++cap).map (ren g)⟩:=by
  rw [e1]; simp
 simp only [execOp,ho,resolve,hc,hex,Deferred.ofValue,Sem.run_bind,Sem.run_pure,Result.andThen_ok,invoke,e2]
 exact MK h hn hb _ _
theorem Lz {nm:Nat} :∀(l:List Blk) (j:Nat) (H:Heap) (n:Nat),look (app (newB nm j l) H) n=if nm+j≤n∧n<nm+j+l.length then l[n-(nm+j)]? else look H n
 |[],j,H,n=>by rw [if_neg (by simp only [List.length_nil]; omega)]; rfl
 | b ::r,j,H,n=>by
  show look (app (newB nm (j+1) r) (upd H (nm+j) b)) n=_
  rw [Lz r (j+1),Em]
  simp only [List.length_cons]
  by_cases h1:nm+(j+1)≤n∧n<nm+(j+1)+r.length
  ·rw [if_pos h1,if_pos (by omega),show n-(nm+j)=(n-(nm+(j+1)))+1 by omega,List.getElem?_cons_succ]
  ·rw [if_neg h1]
   by_cases h2:n=nm+j
   ·rw [if_pos h2,if_pos (by omega),h2,Nat.sub_self]; rfl
   ·rw [if_neg h2,if_neg (by omega)]
theorem OS (a b:List (Nat×Blk)) (H:Heap):app (a++b) H=app b (app a H):=by simp [app,List.foldl_append]
theorem new_rel {W0:World} {out:Nat→Prop} {g g2:Nat→Nat} {H:Heap} {nm nx S:Nat} {w:World} {l:List Blk} (hr:HRel W0 out g H nx w) (hx:nm+16≤nx) (hlen:l.length≤16)
  (hold:∀n b,look H n=some b→g n<S∧(n<nm∨nm+16≤n)∧∀c∈b.cells,Fr nm c) (hS:W0.heap.size≤S) (htS:∀x∈TB,x.1<S) (hc:∀b∈l,∀c∈b.cells,Clo c)
  (hm:∀j b,l[j]? =some b→w.heap[g2 j]? =some (.cells ⟨b.cells⟩ b.ty (0,0))) (hS2:∀j,j<l.length→S≤g2 j) (hi:∀i j,i<l.length→j<l.length→g2 i=g2 j→i=j):
  HRel W0 out (fun n=>if nm≤n∧n<nm+l.length then g2 (n-nm) else g n) (app (newB nm 0 l) H) nx w:=by
 have hag:∀n,n<nm∨nm+16≤n→g n=(fun n=>if nm≤n∧n<nm+l.length then g2 (n-nm) else g n) n:=fun n h=>by
  simp only
  rw [if_neg (by omega)]
 have cs:∀n b,look (app (newB nm 0 l) H) n=some b→(nm≤n∧n<nm+l.length∧l[n-nm]? =some b)∨(¬(nm≤n∧n<nm+l.length)∧look H n=some b):=fun n b h=>by
  rw [Lz] at h
  simp only [Nat.add_zero] at h
  split at h
  ·rename_i hc'; exact .inl ⟨hc'.1,hc'.2,h⟩
  ·rename_i hc'; exact .inr ⟨hc',h⟩
 refine ⟨fun n b h=> ?_,fun n b h=> ?_,fun n b h=> ?_,fun n m b c h1 h2 e=> ?_,fun n b h=> ?_,hr.keep,hr.tabs,fun n b h x hxt=> ?_⟩
 ·rcases cs n b h with ⟨h1,h2,_⟩|⟨_,h1⟩
  ·omega
  ·exact hr.dom n b h1
 ·rcases cs n b h with ⟨h1,h2,h3⟩|⟨_,h1⟩
  ·exact fun v hv=>(hc b (List.mem_of_getElem? h3) v hv).bnd nx
  ·exact hr.bnd n b h1
 ·rcases cs n b h with ⟨h1,h2,h3⟩|⟨h0,h1⟩
  ·simp only [if_pos (show nm≤n∧n<nm+l.length from ⟨h1,h2⟩)]
   rw [hm _ b h3,map_clo (hc b (List.mem_of_getElem? h3))]
  ·simp only [if_neg h0]
   rw [hr.mem n b h1]
   congr 3
   exact List.map_congr_left fun v hv=>(hold n b h1).2.2 v hv _ _ hag
 ·rcases cs n b h1 with ⟨a1,a2,a3⟩|⟨a0,a1⟩<;>rcases cs m c h2 with ⟨b1,b2,b3⟩|⟨b0,b1⟩
  ·simp only [if_pos (show nm≤n∧n<nm+l.length from ⟨a1,a2⟩),if_pos (show nm≤m∧m<nm+l.length from ⟨b1,b2⟩)] at e
   have:=hi _ _ (by omega) (by omega) e
   omega
  ·simp only [if_pos (show nm≤n∧n<nm+l.length from ⟨a1,a2⟩),if_neg b0] at e
   have h3:=hS2 (n-nm) (by omega)
   have h4:=(hold m c b1).1
   omega
  ·simp only [if_neg a0,if_pos (show nm≤m∧m<nm+l.length from ⟨b1,b2⟩)] at e
   have h3:=hS2 (m-nm) (by omega)
   have h4:=(hold n b a1).1
   omega
  ·simp only [if_neg a0,if_neg b0] at e
   exact hr.inj n m b c a1 b1 e
 ·rcases cs n b h with ⟨h1,h2,h3⟩|⟨h0,h1⟩
  ·simp only [if_pos (show nm≤n∧n<nm+l.length from ⟨h1,h2⟩)]
   have:=hS2 (n-nm) (by omega)
   exact .inl (by omega)
  ·simp only [if_neg h0]
   exact hr.own n b h1
 ·rcases cs n b h with ⟨h1,h2,h3⟩|⟨h0,h1⟩
  ·simp only [if_pos (show nm≤n∧n<nm+l.length from ⟨h1,h2⟩)]
   have:=hS2 (n-nm) (by omega)
   have:=htS x hxt
   omega
  ·simp only [if_neg h0]
   exact hr.ntab n b h1 x hxt
theorem Pv {c:Call} {x:Operand} {f:FuncId} {first cap:List Value} {s:HSpec} {rc:Rc} (ho:o.op= .call c) (hc:c.callee= .value x) (hx:evOk T x=true) (ha:∀y∈c.args.toList,evOk T y=true)
  (hv:ev T x= .func (.func f) ⟨first⟩ ⟨cap⟩) (hs:SOK P f s) (hnx:nm+16≤nx) (h:Jo nm s (first++c.args.toList.map (ev T)++cap) H=some rc) (hneed:rc.need=true):Goes P o nm nx T H rc.r:=by
 generalize hvs:first++c.args.toList.map (ev T)++cap=vs at h
 unfold Jo at h
 cases h1:vs.all Ni with
 |false=>simp [h1] at h
 | true=>
  simp only [h1,cond_true] at h
  rw [List.all_eq_true] at h1
  generalize hns:dedup (vs.filterMap ptrN)=ns at h
  have hd:ns.Nodup:=by rw [←hns]; exact Gc _
  have hmem:∀v∈vs,∀n,ptrN v=some n→n∈ns:=fun v hv n hn=>by
   rw [←hns,I9]
   exact List.mem_filterMap.2 ⟨v,hv,hn⟩
  split at h
  ·rename_i bl hb
   cases h2:bl.all Blk.clo with
   |false=>simp [h2] at h
   | true=>
    simp only [h2,cond_true] at h
    rw [List.all_eq_true] at h2
    split at h
    ·rename_i n v bl' hsp
     obtain ⟨fn,hf1,hf2,hf3⟩:=hs.enter
     obtain ⟨hl,hget⟩:=Hm hb
     have CALL:n=true→∀(W0:World) (out:Nat→Prop) (g:Nat→Nat) (a:Act) (w:World),TRel g T nx a→HRel W0 out g H nx w→
       (execOp a.eval o).run P w= .ok (.enter f ⟨vs.map (ren g)⟩) w∧Calls P f ⟨vs.map (ren g)⟩ w fun e w'=>∃g2:Nat→Nat,(∀i n,ns[i]? =some n→g2 i=g n)∧e= .returned (ren g2 v)∧
        (∀i b,bl'[i]? =some b→w'.heap[g2 i]? =some (.cells ⟨b.cells⟩ b.ty (0,0)))∧(∀i,bl.length≤i→i<bl'.length→w.heap.size≤g2 i)∧
        (∀i j,bl.length≤i→i<bl'.length→bl.length≤j→j<bl'.length→g2 i=g2 j→i=j)∧Keep w (fun k=>∃n∈ns,k=g n) w':=fun hn W0 out g a w tr hr=>by
      subst hn
      have hrun:=Ll (w:=w) ho hc hx ha tr hv hf1 hf2 hf3
      rw [hvs] at hrun
      refine ⟨hrun,?_⟩
      let g':Nat→Nat:=fun i=>g (ns.getD i 0)
      have hg':∀(i n:Nat),ns[i]? =some n→g' i=g n:=fun i n hi=>by simp [g',List.getD_eq_getElem?_getD,hi]
      have hargs:(vs.map (canV ns)).map (ren g')=vs.map (ren g):=by
       rw [List.map_map]
       exact List.map_congr_left fun v hv=>can_ren g g' hg' (h1 v hv) (hmem v hv)
      have:=hs.run (vs.map (canV ns)) bl v bl' hsp (fun b hb=>Blk.clo_spec (h2 b hb)) g' w
       (fun i b hi=>by
        obtain ⟨n,hn1,hn2⟩:=hget i b hi
        rw [hg' i n hn1,hr.mem n b hn2,map_clo (Blk.clo_spec (h2 b (List.mem_of_getElem? hi)))])
       (fun i j hi hj e=>by
        obtain ⟨n,hn1,hn2⟩:=hget i bl[i] (List.getElem?_eq_getElem hi)
        obtain ⟨m,hm1,hm2⟩:=hget j bl[j] (List.getElem?_eq_getElem hj)
        rw [hg' i n hn1,hg' j m hm1] at e
        have:=hr.inj n m _ _ hn2 hm2 e
        subst this
        rw [List.getElem?_eq_getElem (by omega)] at hn1 hm1
        injection hn1 with hn1
        injection hm1 with hm1
        exact Gx hd (by omega) (by omega) (hn1.trans hm1.symm)) hr.tabs
       (fun i hi x hx=>by
        obtain ⟨n,hn1,hn2⟩:=hget i bl[i] (List.getElem?_eq_getElem hi)
        rw [hg' i n hn1]
        exact hr.ntab n _ hn2 x hx)
      rw [hargs] at this
      refine this.mono fun e w' ⟨g2,hag,he,hmm,hfr,hin,hkk⟩=>⟨g2,fun i n hi=> ?_,he,hmm,hfr,hin,⟨hkk.os,hkk.tape,hkk.output,hkk.size,fun k hk1 hk2=>hkk.block k hk1 ?_⟩⟩
      ·rw [hag i (by have:=(List.getElem?_eq_some_iff.1 hi).1; omega),hg' i n hi]
      ·rintro ⟨i,hi,rfl⟩
       have hi':i<ns.length:=by omega
       exact hk2 ⟨ns[i],List.getElem_mem hi',hg' i _ (List.getElem?_eq_getElem hi')⟩
     cases h3:(clo 8 v&&GA bl bl'&&bl'.all Blk.clo) with
     | true=>
      simp only [h3,cond_true,zS] at h
      subst h
      simp only [zB,List.all_eq_true] at h3
      obtain ⟨⟨hcv,hty⟩,hcb⟩:=h3
      refine ⟨fun W0 out g a w next Q tr hr fr k=> ?_⟩
      obtain ⟨hrun,hcall⟩:=CALL hneed W0 out g a w tr hr
      unfold Oper.wp
      rw [hrun,Oper.upon_enter]
      refine hcall.mono fun e w' ⟨g2,hag,he,hmm,_,_,hk'⟩=> ?_
      have hcl:=clo_spec 8 v hcv
      rw [hcl g2] at he
      subst he
      have hrel:=Nd hr hd hb hty (fun b hb=>Blk.clo_spec (hcb b hb)) (fun i n b hi hb'=>by rw [←hag i n hi]; exact hmm i b hb') hk'
      have:=k g w' (fun _ _=>rfl) tr hrel (hcl.bnd nx)
      rw [hcl g] at this
      exact this
     | false =>
      cases h4:(okN bl'.length 8 v&&H8 bl bl'&&bl'.all Blk.clo&&Nat.ble bl'.length (bl.length+16)) with
      |false=>simp [h3,h4] at h
      | true=>
       simp only [h3,h4,cond_true,cond_false,zS] at h
       subst h
       simp only [zB,List.all_eq_true] at h4
       obtain ⟨⟨⟨hok,hty0⟩,hcb⟩,hle0⟩:=h4
       obtain ⟨hle,hty⟩:=Iu hty0
       have hle16:bl'.length≤bl.length+16:=zL hle0
       refine ⟨fun W0 out g a w next Q tr hr fr k=> ?_⟩
       obtain ⟨hrun,hcall⟩:=CALL hneed W0 out g a w tr hr
       unfold Oper.wp
       rw [hrun,Oper.upon_enter]
       refine hcall.mono fun e w' ⟨g2,hag,he,hmm,hfr,hin,hk'⟩=> ?_
       subst he
       have hcb':∀b∈bl',∀c∈b.cells,Clo c:=fun b hb=>Blk.clo_spec (hcb b hb)
       have hrel:=Nd hr hd hb hty (fun b hb=>hcb' b (List.mem_of_mem_take hb)) (fun i n b hi hb'=>by
        rw [←hag i n hi]
        refine hmm i b ?_
        rw [List.getElem?_take] at hb'
        split at hb'
        ·exact hb'
        ·cases hb') hk'
       have hnsl:ns.length=bl.length:=hl.symm
       have hrel2:=new_rel (nm:=nm) (S:=w.heap.size) (g2:=fun j=>g2 (bl.length+j)) (l:=bl'.drop bl.length) hrel hnx (by simp; omega)
        (fun n b hn=>by
         have hold:∃c,look H n=some c:=by
          by_cases hin':n∈ns
          ·obtain ⟨i,hi,rfl⟩:=List.getElem_of_mem hin'
           obtain ⟨m',hm1,hm2⟩:=hget i bl[i] (List.getElem?_eq_getElem (by omega))
           rw [List.getElem?_eq_getElem hi] at hm1
           injection hm1 with hm1
           exact ⟨_,by rw [hm1]; exact hm2⟩
          ·rw [Gy _ _ (fun b hb=>hin' (List.of_mem_zip hb).1)] at hn
           exact ⟨b,hn⟩
         obtain ⟨c',hc'⟩:=hold
         refine ⟨Eu (hr.mem n c' hc'),(fr.h n c' hc').1,fun u hu=> ?_⟩
         by_cases hin':n∈ns
         ·have hz:∃b0∈bl',b=b0:=by
           obtain ⟨i,hi,rfl⟩:=List.getElem_of_mem hin'
           have hfst:(ns.zip (bl'.take bl.length)).map (·.1)=ns:=MC _ _ (by simp; omega)
           have hz0:i<(ns.zip (bl'.take bl.length)).length:=by rw [List.length_zip]; simp; omega
           have hz1:=List.getElem_mem hz0
           rw [List.getElem_zip] at hz1
           rw [HG _ _ (by rw [hfst]; exact hd) hz1] at hn
           injection hn with hn
           exact ⟨_,List.mem_of_mem_take (List.getElem_mem _),hn.symm⟩
          obtain ⟨b0,hb0,rfl⟩:=hz
          exact ((hcb' _ hb0 u hu).bnd nm).fr
         ·rw [Gy _ _ (fun b hb=>hin' (List.of_mem_zip hb).1)] at hn
          exact (fr.h n b hn).2 u hu)
        hr.keep.size (fun x hx=>by obtain ⟨o',h1',_⟩:=hr.tabs x hx; exact Eu h1') (fun b hb=>hcb' b (List.mem_of_mem_drop hb))
        (fun j b hj=>by rw [List.getElem?_drop] at hj; exact hmm _ b hj) (fun j hj=>hfr _ (by omega) (by simp at hj; omega))
        (fun i j hi hj e=>by simp at hi hj; have:=hin _ _ (by omega) (by omega) (by omega) (by omega) e; omega)
       have hsig:∀i,i<bl'.length→(fun n=>if nm≤n∧n<nm+(bl'.drop bl.length).length then g2 (bl.length+(n-nm)) else g n) (sig ns nm i)=g2 i:=fun i hi=>by
        unfold sig
        cases hns':ns[i]? with
        | some n=>
         have hib:i<bl.length:=by have:=(List.getElem?_eq_some_iff.1 hns').1; omega
         obtain ⟨m',hm1,hm2⟩:=hget i bl[i] (List.getElem?_eq_getElem hib)
         rw [hns'] at hm1
         injection hm1 with hm1
         rw [←hm1] at hm2
         have:=(fr.h n _ hm2).1
         simp only [List.length_drop]
         rw [if_neg (by omega),hag i n hns']
        | none=>
         have:ns.length≤i:=List.getElem?_eq_none_iff.1 hns'
         simp only [List.length_drop]
         rw [if_pos (by omega)]
         congr 1
         omega
       have hval:=J3 (g:=fun n=>if nm≤n∧n<nm+(bl'.drop bl.length).length then g2 (bl.length+(n-nm)) else g n) (h:=sig ns nm) (k:=g2) hsig 8 v hok
       have hbv:Bnd nx (ren (sig ns nm) v):=fun q q' e=>by
        have hq:∀i,i<bl'.length→sig ns nm i<nx:=fun i hi=>by
         unfold sig
         cases hns':ns[i]? with
         | some n=>
          have hib:i<bl.length:=by have:=(List.getElem?_eq_some_iff.1 hns').1; omega
          obtain ⟨m',hm1,hm2⟩:=hget i bl[i] (List.getElem?_eq_getElem hib)
          rw [hns'] at hm1
          injection hm1 with hm1
          rw [←hm1] at hm2
          exact hr.dom n _ hm2
         | none=>
          have:ns.length≤i:=List.getElem?_eq_none_iff.1 hns'
          simp only
          omega
        rw [J3 (k:=fun i=>q (sig ns nm i)) (fun i _=>rfl) 8 v hok,J3 (k:=fun i=>q (sig ns nm i)) (fun i hi=>(e _ (hq i hi)).symm) 8 v hok]
       have hg3:∀n,n<nm∨nm+16≤n→g n=(fun n=>if nm≤n∧n<nm+(bl'.drop bl.length).length then g2 (bl.length+(n-nm)) else g n) n:=fun n hn=>by
        simp only [List.length_drop]
        rw [if_neg (by omega)]
       have htr:TRel (fun n=>if nm≤n∧n<nm+(bl'.drop bl.length).length then g2 (bl.length+(n-nm)) else g n) T nx a:=
        tr.reg fun u hu=>fr.t u hu _ _ hg3
       have:=k _ w' hg3 htr (by show HRel W0 out _ (app (_++_) H) nx w'; rw [OS]; exact hrel2) hbv
       rw [hval] at this
       exact this
    ·simp at h
  ·simp at h
end
def fLst {α R:Type} (f:α→(α→R)→R):List α→(List α→R)→R
 |[],k=>k []
 |x::r,k=>f x fun y=>fLst f r fun s=>k (y::s)
theorem Fv {α R:Type} (f:α→(α→R)→R) (hf:∀x k,f x k=k x):∀(l:List α) (k:List α→R),fLst f l k=k l
 |[],k=>rfl
 |x::r,k=>by simp only [fLst,hf,Fv f hf r]
def fV {R:Type} :Nat→Value→(Value→R)→R
 |0,v,k=>k v
 | n+1,v,k=>
  match v with
  | .bool b=>k (.bool b)
  | .int i x=>k (.int i x)
  | .string s=>k (.string s)
  | .pointer none=>k (.pointer none)
  | .pointer (some ⟨b,o,s⟩)=>fN b fun b'=>k (.pointer (some ⟨b',o,s⟩))
  | .slice none l c=>k (.slice none l c)
  | .slice (some ⟨b,o,s⟩) l c=>fN b fun b'=>k (.slice (some ⟨b',o,s⟩) l c)
  | .agg ⟨cs⟩=>fLst (fV n) cs fun cs'=>k (.agg ⟨cs'⟩)
  | .tuple ⟨cs⟩=>fLst (fV n) cs fun cs'=>k (.tuple ⟨cs'⟩)
  | .func fn ⟨a⟩ ⟨b⟩=>fLst (fV n) a fun a'=>fLst (fV n) b fun b'=>k (.func fn ⟨a'⟩ ⟨b'⟩)
  | .iface t u=>fV n u fun u'=>k (.iface t u')
  |v=>k v
theorem NS {R:Type} :∀(n:Nat) (v:Value) (k:Value→R),fV n v k=k v
 |0,v,k=>rfl
 | n+1,v,k=>by
  unfold fV
  split<;>simp only [GD,Fv _ (NS n),NS n]
def fSp {α R:Type} :List α→(List α→R)→R
 |[],k=>k []
 |x::r,k=>fSp r fun s=>k (x::s)
theorem R7 {α R:Type} :∀(l:List α) (k:List α→R),fSp l k=k l
 |[],k=>rfl
 |x::r,k=>by simp only [fSp,R7 r]
def fB {R:Type} (b:Blk) (k:Blk→R):R:=
 match b with
 | .cs l t=>fLst (fV 6) l fun l'=>k (.cs l' t)
 | .is i xs t=>k (.is i xs t)
theorem fB_eq {R:Type} (b:Blk) (k:Blk→R):fB b k=k b:=by
 cases b<;>simp only [fB,Fv _ (NS 6)]
def fHe {R:Type} (x:Nat×Blk) (k:Nat×Blk→R):R:=
 match x with
 |(n,b)=>fN n fun n'=>fB b fun b'=>k (n',b')
theorem fHe_eq {R:Type} (x:Nat×Blk) (k:Nat×Blk→R):fHe x k=k x:=by
 obtain ⟨n,b⟩:=x
 simp only [fHe,GD,fB_eq]
def fT {R:Type} (T:List Value) (k:List Value→R):R:=fSp T k
theorem fT_eq {R:Type} (T:List Value) (k:List Value→R):fT T k=k T:=R7 T k
def fH {R:Type} (H:Heap) (k:Heap→R):R:=fLst fHe H k
theorem R8 {R:Type} (H:Heap) (k:Heap→R):fH H k=k H:=Fv _ fHe_eq H k
def fS {R:Type} (S:St) (k:St→R):R:=
 match S with
 |⟨T,H,n⟩=>fT T fun T'=>fH H fun H'=>fN n fun n'=>k ⟨T',H',n'⟩
theorem FT {R:Type} (S:St) (k:St→R):fS S k=k S:=by
 obtain ⟨T,H,n⟩:=S
 simp only [fS,fT_eq,R8,GD]
def fR {R:Type} (r:Rec) (k:Rec→R):R:=
 match r with
 |⟨v,rs,ws⟩=>fV 6 v fun v'=>fLst fN rs fun rs'=>fH ws fun ws'=>k ⟨v',rs',ws'⟩
theorem fR_eq {R:Type} (r:Rec) (k:Rec→R):fR r k=k r:=by
 obtain ⟨v,rs,ws⟩:=r
 simp only [fR,NS,Fv _ GD,R8]
def fI {R:Type} (x:Int) (k:Int→R):R:=
 match x with
 | .ofNat n=>fN n fun n'=>k (.ofNat n')
 | .negSucc n=>fN n fun n'=>k (.negSucc n')
theorem fI_eq {R:Type} (x:Int) (k:Int→R):fI x k=k x:=by cases x<;>simp only [fI,GD]
def fY {R:Type} (s:ByteArray) (k:ByteArray→R):R:=
 match s with
 |⟨⟨l⟩⟩=>fLst (fun (b:UInt8) k=>fN b.toNat fun n=>k (UInt8.ofNat n)) l fun l'=>k ⟨⟨l'⟩⟩
theorem fY_eq {R:Type} (s:ByteArray) (k:ByteArray→R):fY s k=k s:=by
 obtain ⟨⟨l⟩⟩:=s
 simp only [fY]
 exact Fv _ (fun x k=>by simp only [GD]; rw [UInt8.ofNat_toNat]) l _
def fVc {R:Type} :Nat→Value→(Value→R)→R
 |0,v,k=>k v
 | n+1,v,k=>
  match v with
  | .bool b=>(match b with|true=>k (.bool true)|false=>k (.bool false))
  | .int i x=>fI x fun x'=>k (.int i x')
  | .string s=>fY s fun s'=>k (.string s')
  | .pointer none=>k (.pointer none)
  | .pointer (some ⟨b,o,s⟩)=>fN b fun b'=>fN o fun o'=>k (.pointer (some ⟨b',o',s⟩))
  | .slice none l c=>fN l fun l'=>fN c fun c'=>k (.slice none l' c')
  | .slice (some ⟨b,o,s⟩) l c=>fN b fun b'=>fN o fun o'=>fN l fun l'=>fN c fun c'=>k (.slice (some ⟨b',o',s⟩) l' c')
  | .agg ⟨cs⟩=>fLst (fVc n) cs fun cs'=>k (.agg ⟨cs'⟩)
  | .tuple ⟨cs⟩=>fLst (fVc n) cs fun cs'=>k (.tuple ⟨cs'⟩)
  | .func fn ⟨a⟩ ⟨b⟩=>fLst (fVc n) a fun a'=>fLst (fVc n) b fun b'=>k (.func fn ⟨a'⟩ ⟨b'⟩)
  | .iface t u=>fVc n u fun u'=>k (.iface t u')
  |v=>k v
theorem Mb {R:Type} :∀(n:Nat) (v:Value) (k:Value→R),fVc n v k=k v
 |0,v,k=>rfl
 | n+1,v,k=>by
  unfold fVc
  split<;>(try simp only [GD,fI_eq,fY_eq,Fv _ (Mb n),Mb n])
  rename_i b
  cases b<;>rfl
def fBc {R:Type} (b:Blk) (k:Blk→R):R:=
 match b with
 | .cs l t=>fLst (fVc 6) l fun l'=>k (.cs l' t)
 | .is i xs t=>fLst fI xs fun xs'=>k (.is i xs' t)
theorem fBc_eq {R:Type} (b:Blk) (k:Blk→R):fBc b k=k b:=by
 cases b<;>simp only [fBc,Fv _ (Mb 6),Fv _ fI_eq]
def fHec {R:Type} (x:Nat×Blk) (k:Nat×Blk→R):R:=
 match x with
 |(n,b)=>fN n fun n'=>fBc b fun b'=>k (n',b')
theorem fHec_eq {R:Type} (x:Nat×Blk) (k:Nat×Blk→R):fHec x k=k x:=by
 obtain ⟨n,b⟩:=x
 simp only [fHec,GD,fBc_eq]
def fRc {R:Type} (r:Rec) (k:Rec→R):R:=
 match r with
 |⟨v,rs,ws⟩=>fVc 6 v fun v'=>fLst fN rs fun rs'=>fLst fHec ws fun ws'=>k ⟨v',rs',ws'⟩
theorem fRc_eq {R:Type} (r:Rec) (k:Rec→R):fRc r k=k r:=by
 obtain ⟨v,rs,ws⟩:=r
 simp only [fRc,Mb,Fv _ GD,Fv _ fHec_eq]
def Env.closed (E:Env):Bool:=match E.inl with|(a,_)::(b,_)::_=>Nat.beq a b|_=>false
def fRm {R:Type} (E:Env) (r:Rec) (k:Rec→R):R:=bif E.closed then fRc r k else fR r k
theorem Jm {R:Type} (E:Env) (r:Rec) (k:Rec→R):fRm E r k=k r:=by
 unfold fRm
 cases E.closed
 ·exact fR_eq r k
 ·exact fRc_eq r k
def bnd1 (v:Option Value) (y d:Nat):Option (Bool×Nat):=
 match v with
 |none=>some (true,d)
 |some (.int _ i)=>some (decide (0≤i)&&decide (i≤(y:Int)),i.toNat)
 |some _=>none
def subL (l:List UInt8) (a b:Nat):ByteArray:=⟨⟨(l.drop a).take (b-a)⟩⟩
def Qd (lo:Option Value) (cap l o k:Nat):Nat:=match lo with|none=>o|some _=>bif Nat.beq cap l then o else o+k
def offK {R:Type} (lo:Option Value) (cap l o k:Nat) (cont:Nat→R):R:=match lo with|none=>cont o|some _=>cont (bif Nat.beq cap l then o else o+k)
theorem offK_eq {R:Type} (lo:Option Value) (cap l o k:Nat) (cont:Nat→R):offK lo cap l o k cont=cont (Qd lo cap l o k):=by cases lo<;>rfl
def LK (P:Program) (t:TypeId) (x:Value) (lo hi:Option Value):Option Rc:=
 match P.underlying t,x with
 | some .string,.string s=>
  (match bnd1 hi s.size s.size with
  | some (n1,h)=>(match bnd1 lo h 0 with
   |some (n2,l)=>some ⟨n1&&n2,⟨.string (subL s.data.toList l h),[],[]⟩⟩
   |none=>none)
  |none=>none)
 | some (.slice e),.slice none len cap=>
  (match G8 P e,bnd1 hi cap len with
  | some sz,some (n1,h)=>(match bnd1 lo h 0 with
   |some (n2,l)=>some ⟨n1&&n2,⟨.slice none (h-l) (cap-l),[],[]⟩⟩
   |none=>none)
  |_,_=>none)
 | some (.slice e),.slice (some ⟨b,o,none⟩) len cap=>
  (match G8 P e,bnd1 hi cap len with
  | some sz,some (n1,h)=>(match bnd1 lo h 0 with
   |some (n2,l)=>fN sz fun sz=>offK lo cap l o (l*sz) fun off=>some ⟨n1&&n2,⟨.slice (some ⟨b,off,none⟩) (h-l) (cap-l),[],[]⟩⟩
   |none=>none)
  |_,_=>none)
 | some (.array n e),.pointer (some ⟨b,o,none⟩)=>
  (match G8 P e,bnd1 hi n n with
  | some sz,some (n1,h)=>(match bnd1 lo h 0 with
   |some (n2,l)=>fN sz fun sz=>offK lo n l o (l*sz) fun off=>some ⟨n1&&n2,⟨.slice (some ⟨b,off,none⟩) (h-l) (n-l),[],[]⟩⟩
   |none=>none)
  |_,_=>none)
 |_,_=>none
def GO (z:Value) (n:Nat):List Value:=(List.range n).map fun j=>(E0 z).getD (j%(E0 z).length) default
def mkZ (e:TypeId) (z:Value) (n:Nat):Blk:=
 bif IS then (match z with| .int k 0=> .is k (List.replicate n 0) e|z=> .cs (GO z n) e) else .cs (GO z n) e
def HK (P:Program) (nm:Nat) (t:TypeId) (l c:Value):Option Rc:=
 match P.underlying t,l,c with
 | some (.slice e),.int _ l,.int _ c=>
  (match P.info? e,G8 P e,Kf P e with
  | some ie,some s,some z=>
   bif clo 8 z then fN s fun s=>fN ie.bytes fun by_=>some ⟨decide (0≤l)&&(decide (l≤c)&&(decide (c≤140737488355328)&&decide (by_*c≤140737488355328))),⟨.slice (some ⟨nm,0,none⟩) l.toNat c.toNat,[],[(nm,mkZ e z (c.toNat*s))]⟩⟩ else none
  |_,_,_=>none)
 |_,_,_=>none
def OK:Value→Option UInt8
 | .int .u8 n=>some (UInt8.ofNat n.toNat)
 |_=>none
def IJ:List Value→Option (List UInt8)
 |[]=>some []
 | v::r=>match OK v,IJ r with
  |some b,some l=>some (b::l)
  |_,_=>none
def Il (P:Program) (s d:TypeId) (x:Value) (H:Heap):Option Rc:=
 match P.underlying s,P.underlying d,x with
 |some (.slice e),some .string,.slice none _ _=>(match P.underlying e with|some (.int .u8)=>Rc.of (.string ⟨⟨[]⟩⟩) [] []|_=>none)
 | some (.slice e),some .string,.slice (some ⟨b,o,none⟩) len _=>
  (match P.underlying e,look H b with
  | some (.int .u8),some (.cs C _)=>(match FX o len C with
   |some cs=>(match IJ cs with|some l=>Rc.of (.string ⟨⟨l⟩⟩) [b] []|none=>none)
   |none=>none)
  |some (.int .u8),some (.is .u8 xs _)=>some ⟨Nat.ble (o+len) xs.length,⟨.string ⟨⟨((xs.drop o).take len).map fun n=>UInt8.ofNat n.toNat⟩⟩,[b],[]⟩⟩
  |_,_=>none)
 |_,_,_=>none
def GP (H:Heap) (s:Nat):Value→Option (Nat×List Value×List Nat)
 | .slice none n _=>bif Nat.beq n 0 then some (0,[],[]) else none
 | .slice (some ⟨b,o,none⟩) n _=>(match look H b with
  |some (.cs C _)=>(match FX o (n*s) C with|some l=>some (n,l,[b])|none=>none)
  |_=>none)
 |_=>none
def O4 (P:Program) (t:TypeId):Option Bool:=match P.underlying t with|some (.int _)=>some true|some _=>some false|none=>none
def wr (xs:List Int):Nat→List Int→List Int
 |_,[]=>xs
 |i,v::r=>wr (xs.set i v) (i+1) r
def GN (P:Program) (ts:List TypeId) (xs:List Value) (H:Heap):Option Rc:=
 match ts,xs with
 | t :: t2 ::_,[.slice (some ⟨b,o,none⟩) len cap,x]=>
  (match P.underlying t,O4 P t2 with
  | some (.slice e),some false=>
   (match G8 P e with
   | some s=>fN s fun s=>(match GP H s x with
    | some (n,cells,rs)=>
     (match look H b with
     |some (.cs C ty)=>bif cells.all HO then
       (match putN (o+len*s) cells C with
       |some C'=>some ⟨decide (len+n≤cap),⟨.slice (some ⟨b,o,none⟩) (len+n) cap,b::rs,[(b,.cs C' ty)]⟩⟩
       |none=>none) else none
     | some (.is k xs ty)=>
      (match FJ k cells with
      |some vs=>some ⟨Nat.ble (len+n) cap&&(Nat.beq s 1&&Nat.ble (o+len+vs.length) xs.length),⟨.slice (some ⟨b,o,none⟩) (len+n) cap,b::rs,[(b,.is k (wr xs (o+len) vs) ty)]⟩⟩
      |none=>none)
     |_=>none)
    |none=>none)
   |none=>none)
  |_,_=>none)
 |_,_=>none
def IF (P:Program) (t:TypeId) (x i:Value):Option Rc:=
 match x,i with
 | .pointer (some ⟨b,o,some s⟩),.int _ n=>
  (match P.underlying t with
  | some (.array len e)=>(match G8 P e with
   |some sz=>some ⟨decide (0≤n)&&decide (n<len),⟨.pointer (some ⟨b,o+n.toNat*sz,some s⟩),[],[]⟩⟩
   |none=>none)
  |_=>none)
 |_,_=>none
def JH (P:Program) (t:TypeId):Value→Option Rc
 | .pointer (some ⟨b,o,some _⟩)=>
  (match tAgg P t,look TB b with
  | some false,some C=>(match FX o 1 C with
   |some [v]=>bif clo 8 v then Rc.of v [] [] else none
   |_=>none)
  |_,_=>none)
 |_=>none
def effX (P:Program) (nm:Nat) (o:Oper) (T:List Value) (H:Heap):Option Rc:=
 bif o.op.operands.toList.all (evOk T) then
  match o.op with
  | .indexAddr t x i=>IF P t (ev T x) (ev T i)
  | .load t x=>JH P t (ev T x)
  | .slice t x lo hi none=>LK P t (ev T x) (lo.map (ev T)) (hi.map (ev T))
  | .makeSlice t l c=>HK P nm t (ev T l) (ev T c)
  | .convert s d x=>Il P s d (ev T x) H
  | .call c=>
   (match c.callee with
   | .builtin .append=>GN P c.argTypes.toList (c.args.toList.map (ev T)) H
   |_=>none)
  |_=>none
 else none
section
variable {P:Program} {o:Oper} {nm nx:Nat} {T:List Value} {H:Heap}
theorem N3 {v:Option Value} {y d:Nat} {n:Bool} {k:Nat} (h:bnd1 v y d=some (n,k)) (hn:n=true) (g:Nat→Nat) (code:BoundsCode) (w:World):
  (match v.map (ren g) with|some u=>Instr.sliceBound u y code|none=>pure d:Sem Nat).run P w= .ok k w:=by
 unfold bnd1 at h
 split at h
 ·simp only [zS,zP] at h
  obtain ⟨_,rfl⟩:=h
  simp
 ·rename_i kk i
  simp only [zS,zP] at h
  obtain ⟨h1,rfl⟩:=h
  subst hn
  simp only [zB,zD] at h1
  have hc:0≤i∧i≤(y:Int):=h1
  simp only [Option.map_some,Ix,Instr.sliceBound,asIntOf,Sem.run_bind,Sem.run_pure,Result.andThen_ok]
  rw [if_pos hc]
  simp
 ·simp at h
theorem H9 {isS:Bool} {len cap:Nat} {lo hi:Option Value} {n1 n2:Bool} {hh l:Nat} (h1:bnd1 hi cap len=some (n1,hh)) (h2:bnd1 lo hh 0=some (n2,l)) (hn:(n1&&n2)=true) (g:Nat→Nat) (w:World):
  (Instr.sliceBounds isS len cap (lo.map (ren g)) (hi.map (ren g)) none).run P w= .ok (l,hh,cap) w:=by
 rw [zB] at hn
 have a1:=N3 (P:=P) h1 hn.1 g (if isS=true then .sliceAcap else .sliceAlen) w
 have a2:=N3 (P:=P) h2 hn.2 g .sliceB w
 unfold Instr.sliceBounds
 cases hi with
 | none=>
  simp only [Option.map_none] at a1
  have e:len=hh:=by simpa using a1
  subst e
  cases lo with
  | none=>
   simp only [Option.map_none] at a2
   have e:0=l:=by simpa using a2
   subst e
   simp
  | some u=>
   simp only [Option.map_some] at a2
   simp [a2]
 | some v=>
  simp only [Option.map_some] at a1
  cases lo with
  | none=>
   simp only [Option.map_none] at a2
   have e:0=l:=by simpa using a2
   subst e
   simp [a1]
  | some u=>
   simp only [Option.map_some] at a2
   simp [a1,a2]
theorem G9 {a:Act} {g:Nat→Nat} (tr:TRel g T nx a) {x:Option Operand} (h:∀y,x=some y→evOk T y=true):x.map a.eval=(x.map (ev T)).map (ren g):=by
 cases x with
 |none=>rfl
 |some y=>simp [tr.eval (h y rfl)]
theorem NG {lo:Option Value} {n1:Bool} {y cap l o k s:Nat} (h:bnd1 lo y 0=some (n1,l)) (hk:k=l*s):Qd lo cap l o k=if cap=l then o else o+k:=by
 unfold Qd
 cases lo with
 | none=>
  simp only [bnd1,zS,zP] at h
  obtain ⟨_,rfl⟩:=h
  subst hk
  simp
 | some v=>
  simp only
  by_cases hc:cap=l
  ·subst hc; simp
  ·rw [if_neg hc,LP hc]; rfl
theorem sub_eq (s:ByteArray) (l h:Nat):subL s.data.toList l h=s.extract l h:=by
 have e:=Lib.extract_data s l h
 generalize s.extract l h=t at*
 obtain ⟨⟨m⟩⟩:=t
 simp only at e
 rw [subL,←e]
theorem MQ {b o o':Nat} {l c l' c':Nat} (h:Bnd nx (.slice (some ⟨b,o,none⟩) l c)):Bnd nx (.slice (some ⟨b,o',none⟩) l' c'):=by
 intro g1 g2 e12
 have:=h g1 g2 e12
 simp only [Fk,Value.slice.injEq,zS,Addr.mk.injEq,and_true] at this
 simp [this]
theorem QX {b o o':Nat} {l' c':Nat} (h:Bnd nx (.pointer (some ⟨b,o,none⟩))):Bnd nx (.slice (some ⟨b,o',none⟩) l' c'):=by
 intro g1 g2 e12
 have:=h g1 g2 e12
 simp only [Iv,Value.pointer.injEq,zS,Addr.mk.injEq,and_true] at this
 simp [this]
theorem O7 {t:TypeId} {x:Operand} {lo hi:Option Operand} {rc:Rc} (ho:o.op= .slice t x lo hi none) (hx:evOk T x=true) (hlo:∀y,lo=some y→evOk T y=true) (hhi:∀y,hi=some y→evOk T y=true)
  (h:LK P t (ev T x) (lo.map (ev T)) (hi.map (ev T))=some rc) (hn:rc.need=true):Goes P o nm nx T H rc.r:=by
 unfold LK at h
 simp only [GD,offK_eq] at h
 split at h
 ·rename_i s ht hv
  split at h
  ·rename_i n1 hh h1
   split at h
   ·rename_i n2 l h2
    injection h with h; subst h
    refine Goes.pure fun W0 out g a w tr hr=>⟨fun g1 g2 _=>by simp,?_⟩
    have hex:a.eval x= .string s:=by rw [tr.eval hx,hv]; simp
    have hb:=H9 (P:=P) (isS:=false) h1 h2 hn g w
    simp only [execOp,ho,hex,Instr.sliceAt,Instr.slice,Sem.run_bind,run_underlying ht,Result.andThen_ok,G9 tr hlo,G9 tr hhi,Option.map_none,Option.isSome_none,Bool.false_eq_true,if_false,Sem.run_bind,hb,Result.andThen_ok,Sem.run_pure,ren_string,sub_eq]
   ·simp at h
  ·simp at h
 ·rename_i e len cap ht hv
  split at h
  ·rename_i sz n1 hh hs h1
   split at h
   ·rename_i n2 l h2
    injection h with h; subst h
    refine Goes.pure fun W0 out g a w tr hr=>⟨fun g1 g2 _=>by simp,?_⟩
    have hex:a.eval x= .slice none len cap:=by rw [tr.eval hx,hv]; simp
    have hb:=H9 (P:=P) (isS:=true) h1 h2 hn g w
    simp only [execOp,ho,hex,Instr.sliceAt,Instr.slice,Sem.run_bind,run_underlying ht,Result.andThen_ok,G9 tr hlo,G9 tr hhi,Option.map_none,hb,Et hs,Sem.run_pure,HD]
    simp
   ·simp at h
  ·simp at h
 ·rename_i e b off len cap ht hv
  split at h
  ·rename_i sz n1 hh hs h1
   split at h
   ·rename_i n2 l h2
    injection h with h; subst h
    refine Goes.pure fun W0 out g a w tr hr=>⟨?_,?_⟩
    ·have:=tr.bndEv x
     rw [hv] at this
     exact MQ this
    have hex:a.eval x= .slice (some ⟨g b,off,none⟩) len cap:=by rw [tr.eval hx,hv]; simp
    have hb:=H9 (P:=P) (isS:=true) h1 h2 hn g w
    simp only [execOp,ho,hex,Instr.sliceAt,Instr.slice,Sem.run_bind,run_underlying ht,Result.andThen_ok,G9 tr hlo,G9 tr hhi,Option.map_none,hb,Et hs,Sem.run_pure,Fk,NG (s:=sz) h2 rfl]
    split<;>simp [FN]
   ·simp at h
  ·simp at h
 ·rename_i n e b off ht hv
  split at h
  ·rename_i sz n1 hh hs h1
   split at h
   ·rename_i n2 l h2
    injection h with h; subst h
    refine Goes.pure fun W0 out g a w tr hr=>⟨?_,?_⟩
    ·have:=tr.bndEv x
     rw [hv] at this
     exact QX this
    have hex:a.eval x= .pointer (some ⟨g b,off,none⟩):=by rw [tr.eval hx,hv]; simp
    have hb:=H9 (P:=P) (isS:=false) h1 h2 hn g w
    simp only [execOp,ho,hex,Instr.sliceAt,Instr.sureAddr,Sem.run_bind,run_underlying ht,Result.andThen_ok,G9 tr hlo,G9 tr hhi,Option.map_none,hb,Et hs,Sem.run_pure,Fk,NG (s:=sz) h2 rfl]
    split<;>simp [FN]
   ·simp at h
  ·simp at h
 ·simp at h
theorem PW {z:Value} (hz:Clo z) (n:Nat):∀c∈GO z n,Clo c:=by
 intro c hc
 obtain ⟨j,_,rfl⟩:=List.mem_map.1 hc
 rw [List.getD_eq_getElem?_getD]
 cases hg:(E0 z)[j%(E0 z).length]? with
 |none=>intro g; simp [default,instInhabitedValue.default]
 | some u=>
  intro g
  have e:(E0 z).map (ren g)=E0 z:=by rw [←Fj,hz g]
  have:=Fb (f:=ren g) (g:=id) (by rw [e]; simp) u (List.mem_of_getElem? hg)
  simpa using this
theorem wid {n:Int} (h:0≤n) (h':n≤140737488355328):i64.wrap n=n:=by
 simp only [IntKind.wrap,IntKind.signed,IntKind.bits,Bool.true_and]
 split
 ·rename_i hc; have:=of_decide_eq_true hc; omega
 ·omega
theorem mkZ_eq (e:TypeId) (z:Value) (n:Nat):(mkZ e z n).cells=GO z n∧(mkZ e z n).ty=e:=by
 unfold mkZ
 cases IS with
 |false=>exact ⟨rfl,rfl⟩
 | true=>
  simp only [cond_true]
  split
  ·rename_i k
   refine ⟨?_,rfl⟩
   show (List.replicate n (0:Int)).map (Value.int k)=GO (.int k 0) n
   rw [List.map_replicate]
   unfold GO
   have h1:E0 (.int k 0)=[.int k 0]:=rfl
   refine List.ext_getElem (by simp) fun i h2 h3=> ?_
   rw [List.getElem_replicate,List.getElem_map]
   simp [h1,Nat.mod_one]
  ·exact ⟨rfl,rfl⟩
theorem Q9 (z:Value) (n:Nat):(Array.range n).map (fun x=>z.cells[x%z.cells.size]!)=⟨GO z n⟩:=by
 apply Array.toList_inj.1
 simp only [Array.toList_map,Array.toList_range,GO]
 refine List.map_congr_left fun j _=> ?_
 rw [GV z]
 simp [List.getD_eq_getElem?_getD]
theorem QQ {t:TypeId} {i:TypeInfo} (h:P.info? t=some i) (w:World):(typeInfo t).run P w= .ok i w:=by simp [typeInfo,h]
theorem LC {t:TypeId} {l c:Operand} {rc:Rc} (hn:nm+16≤nx) (ho:o.op= .makeSlice t l c) (hl:evOk T l=true) (hc:evOk T c=true) (h:HK P nm t (ev T l) (ev T c)=some rc) (hneed:rc.need=true):Goes P o nm nx T H rc.r:=by
 unfold HK at h
 simp only [GD] at h
 split at h
 ·rename_i e kl l' kc c' ht hvl hvc
  split at h
  ·rename_i ie s z hi hs hz
   cases hcz:clo 8 z with
   |false=>simp [hcz] at h
   | true=>
    simp only [hcz,cond_true,zS] at h
    subst h
    simp only [zB,zD] at hneed
    obtain ⟨d1,d2,d3,d4⟩:=hneed
    have hcl:=PW (clo_spec 8 z hcz) (c'.toNat*s)
    obtain ⟨mz1,mz2⟩:=mkZ_eq e z (c'.toNat*s)
    refine JF (v:=fun n=> .slice (some ⟨n,0,none⟩) l'.toNat c'.toNat) hn (fun g=>by simp) fun W0 out g a w tr hr fr=>⟨fun u hu=>by rw [mz1] at hu; exact ⟨(hcl u hu).bnd nx,((hcl u hu).bnd nm).fr⟩,?_⟩
    rw [mz1,mz2]
    have hel:a.eval l= .int kl l':=by rw [tr.eval hl,hvl]; simp
    have hec:a.eval c= .int kc c':=by rw [tr.eval hc,hvc]; simp
    have w1:i64.wrap l'=l':=wid (by omega) (by omega)
    have w2:i64.wrap c'=c':=wid (by omega) (by omega)
    have e1:(GO z (c'.toNat*s)).map (ren g)=GO z (c'.toNat*s):=map_clo hcl g
    have t1:¬(decide (c'<0)||decide ((ie.bytes:Int)*c'>2^48))=true:=by simp; omega
    have t2:¬((decide (c'<0)||decide ((ie.bytes:Int)*c'>2^48))||decide (l'<0)||decide (l'>c'))=true:=by simp; omega
    have t3:¬(c'.toNat*ie.bytes>roomBytes):=by
     have:((c'.toNat*ie.bytes:Nat):Int)=ie.bytes*c':=by rw [Int.natCast_mul,Int.toNat_of_nonneg (by omega),Int.mul_comm]
     simp only [roomBytes]
     omega
    have t4:¬(decide (c'<0)=true∨decide ((ie.bytes:Int)*c'>2^48)=true):=by simp; omega
    simp only [execOp,ho,hel,hec,Instr.makeSlice,asInt,asIntOf,Sem.run_bind,run_underlying ht,Result.andThen_ok,Sem.run_pure,QQ hi,w1,w2,Et hs]
    rw [if_neg t2]
    simp only [askRoom,if_neg t3,Sem.run_bind,Sem.run_pure,Result.andThen_ok]
    by_cases h0:c'.toNat*s=0
    ·rw [Et hs]
     simp [h0,newRow,newObj,Sem.run,Blk.cells,Blk.ty,GO,World.alloc_eq]
     exact congrArg (fun x=>w.alloc (Obj.cells x e)) (Array.toList_inj.1 (by simp))
    ·rw [Et hs]
     simp only [Result.andThen_ok,h0,if_false,Sem.run_bind,Kl hz,Sem.run_pure,Q9,newRow,newObj,Sem.run,Blk.cells,Blk.ty,e1,World.alloc_eq]
  ·simp at h
 ·simp at h
theorem OJ (g:Nat→Nat) {v:Value} {b:UInt8} (h:OK v=some b):∃n:Int,v= .int .u8 n∧b=UInt8.ofNat n.toNat:=by
 unfold OK at h
 split at h
 ·rename_i n; injection h with h; exact ⟨n,rfl,h.symm⟩
 ·simp at h
theorem K6:∀ {l:List Value} {bs:List UInt8},IJ l=some bs→∃ns:List Int,l=ns.map (Value.int .u8)∧bs=ns.map fun n=>UInt8.ofNat n.toNat
 |[],bs,h=>by simp [IJ] at h; subst h; exact ⟨[],rfl,rfl⟩
 | v ::r,bs,h=>by
  simp only [IJ] at h
  split at h
  ·rename_i b l hb hl
   injection h with h; subst h
   obtain ⟨n,rfl,rfl⟩:=OJ id hb
   obtain ⟨ns,rfl,rfl⟩:=K6 hl
   exact ⟨n::ns,rfl,rfl⟩
  ·simp at h
theorem Kv:∀(ns:List Int) (s:List UInt8),ns.foldl (fun (r:ByteArray) n=>r.push (UInt8.ofNat n.toNat)) ⟨⟨s⟩⟩=⟨⟨s++ns.map fun n=>UInt8.ofNat n.toNat⟩⟩
 |[],s=>by simp
 | n ::ns,s=>by
  simp only [List.foldl_cons]
  have:ByteArray.push ⟨⟨s⟩⟩ (UInt8.ofNat n.toNat)=⟨⟨s++[UInt8.ofNat n.toNat]⟩⟩:=by
   show ByteArray.mk (Array.push ⟨s⟩ _)=_
   simp
  rw [this,Kv ns]
  simp
theorem Qu {s d:TypeId} {x:Operand} {rc:Rc} (ho:o.op= .convert s d x) (hx:evOk T x=true) (h:Il P s d (ev T x) H=some rc) (hneed:rc.need=true):Goes P o nm nx T H rc.r:=by
 unfold Il at h
 split at h
 ·rename_i e l c hs hd hv
  split at h
  ·rename_i he
   have:=Rc.of_inv h; subst this
   refine Goes.pure fun W0 out g a w tr hr=>⟨fun g1 g2 _=>by simp,?_⟩
   have hex:a.eval x= .slice none l c:=by rw [tr.eval hx,hv]; simp
   simp [execOp,ho,hex,run_convert_bytes_string w s d e none l c hs he hd,Conv.bytesToString]
   rfl
  ·simp at h
 ·rename_i e b off len c hs hd hv
  split at h
  ·rename_i C ty he hl
   split at h
   ·rename_i cs hc
    split at h
    ·rename_i bs hb
     have:=Rc.of_inv h; subst this
     refine Goes.pure fun W0 out g a w tr hr=>⟨fun g1 g2 _=>by simp,?_⟩
     have hex:a.eval x= .slice (some ⟨g b,off,none⟩) len c:=by rw [tr.eval hx,hv]; simp
     obtain ⟨ns,rfl,rfl⟩:=K6 hb
     have hm:=hr.mem b _ hl
     have hc':=GI (ren g) _ _ _ _ hc
     have hce:(ns.map (Value.int .u8)).map (ren g)=ns.map (Value.int .u8):=by rw [List.map_map]; exact List.map_congr_left fun n _=>by simp
     rw [hce] at hc'
     obtain ⟨h1,h2⟩:=FO _ _ _ _ hc'
     have hld:(loadCells ⟨g b,off,none⟩ len).run P w= .ok (ns.map (Value.int .u8)).toArray w:=by
      have:=Fe (P:=P) hm len 0 #[] (by simpa [Blk.cells] using h2)
      simp only [Nat.add_zero] at this
      unfold loadCells
      rw [this,h1]
      simp [Blk.cells]
     have:=run_bytesToString w _ len c ns hld
     have e0:ByteArray.empty=⟨⟨[]⟩⟩:=rfl
     rw [e0,Kv] at this
     simp only [execOp,ho,hex,Sem.run_bind,run_convert_bytes_string w s d e _ len c hs he hd,this,Result.andThen_ok,Sem.run_pure,ren_string,List.nil_append]
    ·simp at h
   ·simp at h
  ·rename_i xs ty he hl
   injection h with h; subst h
   have hneed':off+len≤xs.length:=zL hneed
   refine Goes.pure fun W0 out g a w tr hr=>⟨fun g1 g2 _=>by simp,?_⟩
   have hex:a.eval x= .slice (some ⟨g b,off,none⟩) len c:=by rw [tr.eval hx,hv]; simp
   have hm:=hr.mem b _ hl
   have hld:(loadCells ⟨g b,off,none⟩ len).run P w= .ok (((xs.drop off).take len).map (Value.int .u8)).toArray w:=by
    have:=Fe (P:=P) hm len 0 #[] (by simpa [Blk.cells] using hneed')
    simp only [Nat.add_zero] at this
    unfold loadCells
    rw [this]
    have e1:(Value.int IntKind.u8∘id)=Value.int IntKind.u8:=rfl
    simp only [Blk.cells,List.map_map,Array.empty_append,List.map_drop,List.map_take]
    congr 3
   have:=run_bytesToString w _ len c ((xs.drop off).take len) hld
   have e0:ByteArray.empty=⟨⟨[]⟩⟩:=rfl
   rw [e0,Kv] at this
   simp only [execOp,ho,hex,Sem.run_bind,run_convert_bytes_string w s d e _ len c hs he hd,this,Result.andThen_ok,Sem.run_pure,ren_string,List.nil_append]
  ·simp at h
 ·simp at h
theorem Ir {s:Nat} {x:Value} {n:Nat} {cells:List Value} {rs:List Nat} (h:GP H s x=some (n,cells,rs)) {W0:World} {out:Nat→Prop} {g:Nat→Nat} {w:World} (hr:HRel W0 out g H nx w):
  (Builtin.lenOf (ren g x)).run P w= .ok n w∧(Builtin.firstCells s n (ren g x)).run P w= .ok ⟨cells.map (ren g)⟩ w∧∀c∈cells,Bnd nx c:=by
 unfold GP at h
 split at h
 ·rename_i m c
  cases hb:Nat.beq m 0 with
  |false=>simp [hb] at h
  | true=>
   have:=zE hb
   subst this
   simp only [hb,cond_true,zS,zP] at h
   obtain ⟨rfl,rfl,_⟩:=h
   exact ⟨by simp [Builtin.lenOf],by simp [Builtin.firstCells],by simp⟩
 ·rename_i b off m c
  split at h
  ·rename_i C ty hl
   split at h
   ·rename_i l hc
    simp only [zS,zP] at h
    obtain ⟨rfl,rfl,_⟩:=h
    have hm:=hr.mem b _ hl
    have hc':=GI (ren g) _ _ _ _ hc
    obtain ⟨h1,h2⟩:=FO _ _ _ _ hc'
    refine ⟨by simp [Builtin.lenOf],?_,fun u hu=> ?_⟩
    ·have:=Fe (P:=P) hm (m*s) 0 #[] (by simpa [Blk.cells] using h2)
     simp only [Nat.add_zero] at this
     simp only [Fk,Builtin.firstCells,loadCells]
     rw [this,h1]
     simp [Blk.cells]
    ·obtain ⟨h3,_⟩:=FO _ _ _ _ hc
     rw [h3] at hu
     exact hr.bnd b _ hl u (List.mem_of_mem_drop (List.mem_of_mem_take hu))
   ·simp at h
  ·simp at h
 ·simp at h
theorem IO:∀(o:Nat) (C:List Value),o≤C.length→putN o [] C=some C
 |0,[],_=>rfl
 |0,_::_,_=>rfl
 |o+1,y::C,h=>by simp [putN,IO o C (by simpa using h)]
 |o+1,[],h=>by simp at h
theorem Lr (x:Value) (r:List Value):∀(o:Nat) (C:List Value),o<C.length→putN o (x::r) C=putN (o+1) r (C.set o x)
 |0,y::C,_=>by simp [putN]
 |o+1,y::C,h=>by simp [putN,Lr x r o C (by simpa using h)]
 |o,[],h=>by simp at h
theorem Hr:∀(vs:List Int) (xs:List Int) (i:Nat),(wr xs i vs).length=xs.length
 |[],xs,i=>rfl
 |v::r,xs,i=>by simp [wr,Hr r]
theorem Oy {k:IntKind} :∀(vs xs:List Int) (i:Nat),i+vs.length≤xs.length→putN i (vs.map (Value.int k)) (xs.map (Value.int k))=some ((wr xs i vs).map (Value.int k))
 |[],xs,i,h=>by simpa [wr] using IO i (xs.map (Value.int k)) (by simpa using h)
 | v::r,xs,i,h=>by
  simp only [List.length_cons] at h
  rw [List.map_cons,Lr _ _ _ _ (by simp; omega),wr,←Oy r (xs.set i v) (i+1) (by simp; omega),List.map_set]
theorem M1 {t:TypeId} (h:O4 P t=some false):∃d,P.underlying t=some d∧∀k,d≠ .int k:=by
 unfold O4 at h
 split at h
 ·simp at h
 ·rename_i d hd hu
  exact ⟨d,hu,fun k e=>hd k e⟩
 ·simp at h
theorem NO {c:Call} {rc:Rc} (ho:o.op= .call c) (hb:c.callee= .builtin .append) (hargs:∀x∈c.args.toList,evOk T x=true) (h:GN P c.argTypes.toList (c.args.toList.map (ev T)) H=some rc) (hneed:rc.need=true):Goes P o nm nx T H rc.r:=by
 unfold GN at h
 simp only [GD] at h
 split at h
 ·rename_i t t2 ts b off len cap x e1 e2
  obtain ⟨p,q,ha,hp,hq⟩:∃p q,c.args= #[p,q]∧ev T p= .slice (some ⟨b,off,none⟩) len cap∧ev T q=x:=by
   clear h hneed hargs ho
   generalize c.args=A at*
   obtain ⟨l⟩:=A
   match l,e2 with
   |[],e2=>simp at e2
   |[_],e2=>simp at e2
   |_::_::_::_,e2=>simp at e2
   |[p,q],e2=>simp only [List.map_cons,List.map_nil,List.cons.injEq,and_true] at e2; exact ⟨p,q,rfl,e2.1,e2.2⟩
  have hpo:evOk T p=true:=hargs p (by simp [ha])
  have hqo:evOk T q=true:=hargs q (by simp [ha])
  obtain ⟨types,hty⟩:∃A:Array TypeId,c.argTypes=⟨t::t2::ts⟩∧A=c.argTypes:=⟨_,by rw [←e1],rfl⟩
  split at h
  ·rename_i e hu hi
   split at h
   ·rename_i s hs
    split at h
    ·rename_i n cells rs hsrc
     split at h
     ·rename_i C ty hl
      cases hok:cells.all HO with
      |false=>simp [hok] at h
      | true=>
       simp only [hok,cond_true] at h
       split at h
       ·rename_i C' hput
        injection h with h; subst h
        simp only [zD] at hneed
        refine ⟨fun W0 out g a w next Q tr hr fr k=> ?_⟩
        have hm:=hr.mem b _ hl
        have hep:a.eval p= .slice (some ⟨g b,off,none⟩) len cap:=by rw [tr.eval hpo,hp]; simp
        have heq:a.eval q=ren g x:=by rw [tr.eval hqo,hq]
        obtain ⟨r1,r2,r3⟩:=Ir (P:=P) hsrc hr
        have hput':=Hf (ren g) _ _ _ _ hput
        have hcl:∀u∈cells.map (ren g),(∀y,u≠ .agg y)∧(∀y,u≠ .tuple y):=by
         intro u hu'
         obtain ⟨c',hc',rfl⟩:=List.mem_map.1 hu'
         rw [List.all_eq_true] at hok
         exact LO g c' (hok c' hc')
        have hrun:=Fa (P:=P) (b:=g b) (off:=off+len*s) (t:=ty) (cells.map (ren g)) w _ _ 0 hm (by simpa [Blk.cells] using hput') hcl
        obtain ⟨dd,hd2,hdn⟩:=M1 (P:=P) hi
        have key:∀tt:TypeId,(Builtin.append_ c.argTypes tt #[a.eval p,a.eval q]).run P w= .ok (.slice (some ⟨g b,off,none⟩) (len+n) cap) (F7 w (g b) (.cells ⟨C'.map (ren g)⟩ ty (0,0))):=by
         intro tt
         rw [hty.1,hep,heq]
         simp only [Builtin.append_,List.getElem?_toArray,List.getElem?_cons_zero,List.getElem?_cons_succ,Sem.run_bind,run_underlying hu,Result.andThen_ok,Et hs,Sem.run_pure,run_underlying hd2]
         cases dd<;>first
          |exact absurd rfl (hdn _)
          |simp only [Bool.false_eq_true,if_false,Sem.run_bind,r1,r2,Result.andThen_ok,hneed,if_true,Bool.not_false,Sem.run_pure,FN,hrun]
        refine Ht (w':=F7 w (g b) (.cells ⟨C'.map (ren g)⟩ ty (0,0))) (u:= .slice (some ⟨g b,off,none⟩) (len+n) cap) ?_ ?_
        ·simp only [execOp,ho,resolve,hb,Sem.run_bind,Sem.run_pure,Result.andThen_ok,invoke,builtin,ha,List.map_cons,List.map_nil,List.map_toArray]
         rw [key]
         simp
        ·have hbs:Bnd nx (.slice (some ⟨b,off,none⟩) (len+n) cap):=by
          have:=tr.bndEv p
          rw [hp] at this
          exact MQ this
         have hrel:=Hw (c:= .cs C' ty) hr hl rfl (fun u hu'=>by
          rcases He _ _ _ _ hput u hu' with h1|h1
          ·exact r3 u h1
          ·exact hr.bnd b _ hl u h1)
         have:=k g _ (fun _ _=>rfl) tr (by simpa [app,Blk.cells,Blk.ty] using hrel) hbs
         simpa using this
       ·simp at h
     ·rename_i k xs ty hl
      split at h
      ·rename_i vs hvs
       injection h with h; subst h
       simp only [zB] at hneed
       obtain ⟨n1,n2,n3⟩:=hneed
       have n1:=zL n1
       have n3:=zL n3
       obtain rfl:=zE n2
       obtain rfl:=Ih hvs
       refine ⟨fun W0 out g a w next Q tr hr fr kk=> ?_⟩
       have hm:=hr.mem b _ hl
       have hep:a.eval p= .slice (some ⟨g b,off,none⟩) len cap:=by rw [tr.eval hpo,hp]; simp
       have heq:a.eval q=ren g x:=by rw [tr.eval hqo,hq]
       obtain ⟨r1,r2,r3⟩:=Ir (P:=P) hsrc hr
       have hrc:∀l:List Int,(l.map (Value.int k)).map (ren g)=l.map (Value.int k):=fun l=>by rw [List.map_map]; exact List.map_congr_left fun n _=>by simp
       have hput':putN (off+len*1+0) (vs.map (Value.int k)) ((Blk.is k xs ty).cells.map (ren g))=some ((wr xs (off+len) vs).map (Value.int k)):=by
        simp only [Blk.cells,hrc,Nat.mul_one,Nat.add_zero]
        exact Oy vs xs _ n3
       have hcl:∀u∈vs.map (Value.int k),(∀y,u≠ .agg y)∧(∀y,u≠ .tuple y):=by
        intro u hu'
        obtain ⟨c',_,rfl⟩:=List.mem_map.1 hu'
        simp
       have hrun:=Fa (P:=P) (b:=g b) (off:=off+len*1) (t:=ty) (vs.map (Value.int k)) w _ _ 0 hm hput' hcl
       rw [hrc] at r2
       obtain ⟨dd,hd2,hdn⟩:=M1 (P:=P) hi
       have key:∀tt:TypeId,(Builtin.append_ c.argTypes tt #[a.eval p,a.eval q]).run P w= .ok (.slice (some ⟨g b,off,none⟩) (len+n) cap) (F7 w (g b) (.cells ⟨(wr xs (off+len) vs).map (Value.int k)⟩ ty (0,0))):=by
        intro tt
        rw [hty.1,hep,heq]
        simp only [Builtin.append_,List.getElem?_toArray,List.getElem?_cons_zero,List.getElem?_cons_succ,Sem.run_bind,run_underlying hu,Result.andThen_ok,Et hs,Sem.run_pure,run_underlying hd2]
        cases dd<;>first
         |exact absurd rfl (hdn _)
         |simp only [Bool.false_eq_true,if_false,Sem.run_bind,r1,r2,Result.andThen_ok,n1,if_true,Bool.not_false,Sem.run_pure,FN,hrun]
       refine Ht (w':=F7 w (g b) (.cells ⟨(wr xs (off+len) vs).map (Value.int k)⟩ ty (0,0))) (u:= .slice (some ⟨g b,off,none⟩) (len+n) cap) ?_ ?_
       ·simp only [execOp,ho,resolve,hb,Sem.run_bind,Sem.run_pure,Result.andThen_ok,invoke,builtin,ha,List.map_cons,List.map_nil,List.map_toArray]
        rw [key]
        simp
       ·have hbs:Bnd nx (.slice (some ⟨b,off,none⟩) (len+n) cap):=by
         have:=tr.bndEv p
         rw [hp] at this
         exact MQ this
        have hrel:=Hw (c:= .is k (wr xs (off+len) vs) ty) hr hl rfl (fun u hu'=>by
         obtain ⟨m,_,rfl⟩:=List.mem_map.1 hu'
         exact fun g1 g2 _=>by simp)
        have:=kk g _ (fun _ _=>rfl) tr (by simpa [app] using hrel) hbs
        simp only [Blk.cells,hrc,Blk.ty,Fk] at this
        exact this
      ·simp at h
     ·simp at h
    ·simp at h
   ·simp at h
  ·simp at h
 ·simp at h
theorem NN {t:TypeId} {x i:Operand} {u v:Value} {rc:Rc} (ho:o.op= .indexAddr t x i) (hx:evOk T x=true) (hi:evOk T i=true) (hu:ev T x=u) (hv:ev T i=v) (h:IF P t u v=some rc) (hn:rc.need=true):Goes P o nm nx T H rc.r:=by
 unfold IF at h
 split at h
 ·rename_i b off s k n
  split at h
  ·rename_i len e ht
   split at h
   ·rename_i sz hs
    injection h with h; subst h
    simp only [zB,zD] at hn
    refine Goes.pure fun W0 out g a w tr hr=>⟨fun g1 g2 _=>by simp,?_⟩
    have hex:a.eval x= .pointer (some ⟨b,off,none⟩):=by rw [tr.eval hx,hu]; simp
    have hei:a.eval i= .int k n:=by rw [tr.eval hi,hv]; simp
    simp [execOp,ho,hex,hei,Instr.indexAt,Instr.sureAddr,asIntOf,run_underlying ht,Et hs,hn.1,hn.2,FN]
   ·simp at h
  ·simp at h
 ·simp at h
theorem Eg {α:Type} {n:Nat} {a:α} :∀ {l:List (Nat×α)},look l n=some a→(n,a)∈l
  |[],h=>by simp [look] at h
  | (m,b)::r,h=>by
    simp only [look] at h
    cases hb:Nat.beq m n with
    | true=>
      have:=zE hb
      subst this
      simp only [hb,cond_true,zS] at h
      subst h
      simp
    | false=>
      rw [hb] at h
      exact List.mem_cons_of_mem _ (Eg h)
theorem O8 {t:TypeId} {x:Operand} {v:Value} {rc:Rc} (ho:o.op= .load t x) (hx:evOk T x=true) (hv:ev T x=v) (h:JH P t v=some rc):Goes P o nm nx T H rc.r:=by
 unfold JH at h
 split at h
 ·rename_i b off s
  split at h
  ·rename_i C ha hl
   split at h
   ·rename_i u hc
    cases hcl:clo 8 u with
    |false=>simp [hcl] at h
    | true=>
     simp only [hcl,cond_true] at h
     have:=Rc.of_inv h; subst this
     have hcu:=clo_spec 8 u hcl
     refine Goes.pure fun W0 out g a w tr hr=>⟨hcu.bnd nx,?_⟩
     have hex:a.eval x= .pointer (some ⟨b,off,none⟩):=by rw [tr.eval hx,hv]; simp
     obtain ⟨ob,hw,C',ty,fr,rfl,hC,_⟩:=hr.tabs _ (Eg hl)
     have hu:=hC off u (Hv hc)
     have hcell:w.cell? ⟨b,off,none⟩=some u:=by simp [World.cell?,show w.heap[b]? =some (.cells ⟨C'⟩ ty fr) from hw,hu]
     have hld:(load ⟨b,off,none⟩).run P w= .ok u w:=by simp [load,Sem.run,hcell]
     simp only [execOp,ho,hex,Instr.loadAt,Instr.sureAddr,Sem.run_bind,Sem.run_pure,Result.andThen_ok,loadVar,GJ ha,Bool.false_eq_true,if_false,hld,hcu g]
   ·simp at h
  ·simp at h
 ·simp at h
theorem goes_x (hn:nm+16≤nx) {rc:Rc} (h:effX P nm o T H=some rc) (hneed:rc.need=true):Goes P o nm nx T H rc.r:=by
 unfold effX at h
 cases hall:o.op.operands.toList.all (evOk T) with
 |false=>simp [hall] at h
 | true=>
  simp only [hall,cond_true] at h
  rw [List.all_eq_true] at hall
  split at h
  ·rename_i t x i ho
   exact NN ho (hall x (by simp [ho,Op.operands])) (hall i (by simp [ho,Op.operands])) rfl rfl h hneed
  ·rename_i t x ho
   exact O8 ho (hall x (by simp [ho,Op.operands])) rfl h
  ·rename_i t x lo hi ho
   have hm:∀y,y∈o.op.operands.toList→evOk T y=true:=hall
   refine O7 ho (hall x (by simp [ho,Op.operands])) (fun y hy=>hall y ?_) (fun y hy=>hall y ?_) h hneed
   ·subst hy; simp [ho,Op.operands]
   ·subst hy; simp [ho,Op.operands]
  ·rename_i t l c ho
   exact LC hn ho (hall l (by simp [ho,Op.operands])) (hall c (by simp [ho,Op.operands])) h hneed
  ·rename_i s d x ho
   exact Qu ho (hall x (by simp [ho,Op.operands])) h hneed
  ·rename_i c ho
   split at h
   ·rename_i hb
    exact NO ho hb (fun x hx=>hall x (by simp [ho,Op.operands,Call.operands,hb]; simpa using hx)) h hneed
   ·simp at h
  ·simp at h
end
def effC (P:Program) (nm:Nat) (o:Oper) (T:List Value) (H:Heap):Option Rc:=
 match GU P nm o T H with
 |some rc=>some rc
 |none=>effX P nm o T H
theorem Qv {P:Program} {o:Oper} {nm nx:Nat} {T:List Value} {H:Heap} (hn:nm+16≤nx) {rc:Rc} (h:effC P nm o T H=some rc) (hneed:rc.need=true):Goes P o nm nx T H rc.r:=by
 unfold effC at h
 split at h
 ·rename_i rc' hrc
  injection h with h
  subst h
  exact goes_op hn hrc hneed
 ·exact goes_x hn h hneed
theorem effX_T {P:Program} {nm:Nat} {o:Oper} {T T':List Value} {H:Heap} (h:∀x∈o.op.operands.toList,ev T' x=ev T x):effX P nm o T' H=effX P nm o T H:=by
 have opt:∀y:Option Operand,(∀x,y=some x→ev T' x=ev T x)→y.map (ev T')=y.map (ev T):=fun y hy=>by
  cases y with
  |none=>rfl
  |some x=>simp [hy x rfl]
 unfold effX
 rw [LI h]
 cases hall:o.op.operands.toList.all (evOk T) with
 |false=>rfl
 | true=>
  simp only [cond_true]
  split
  ·rename_i t x i ho; rw [h x (by simp [ho,Op.operands]),h i (by simp [ho,Op.operands])]
  ·rename_i t x ho; rw [h x (by simp [ho,Op.operands])]
  ·rename_i t x lo hi ho
   rw [h x (by simp [ho,Op.operands]),opt lo (fun y hy=>h y (by subst hy; simp [ho,Op.operands])),opt hi (fun y hy=>h y (by subst hy; simp [ho,Op.operands]))]
  ·rename_i t l c ho; rw [h l (by simp [ho,Op.operands]),h c (by simp [ho,Op.operands])]
  ·rename_i s d x ho; rw [h x (by simp [ho,Op.operands])]
  ·rename_i c ho
   have:c.args.toList.map (ev T')=c.args.toList.map (ev T):=List.map_congr_left fun x hx=>h x (by simp [ho,Op.operands,Call.operands]; right; simpa using hx)
   rw [this]
  ·rfl
theorem RD {P:Program} {s d:TypeId} {x:Value} {H H':Heap} {rc:Rc} (h:Il P s d x H=some rc) (hh:∀n∈rc.r.rs,look H' n=look H n):Il P s d x H'=some rc:=by
 unfold Il at h ⊢
 split at h
 ·simp only [*] at h ⊢
 ·rename_i e b o len c hs hd
  split at h
  ·rename_i C ty he hl
   split at h
   ·rename_i cs hc
    split at h
    ·rename_i l hb
     have:=Rc.of_inv h; subst this
     have hb':=hh b (by simp)
     simp [*,hb',hl,hc,hb,Rc.of]
    ·simp at h
   ·simp at h
  ·rename_i xs ty he hl
   injection h with h; subst h
   have hb':=hh b (by simp)
   simp [he,hb',hl]
  ·simp at h
 ·simp at h
theorem NV {P:Program} {ts:List TypeId} {xs:List Value} {H H':Heap} {rc:Rc} (h:GN P ts xs H=some rc) (hh:∀n∈rc.r.rs,look H' n=look H n):GN P ts xs H'=some rc:=by
 unfold GN at h ⊢
 simp only [GD] at h ⊢
 split at h
 ·rename_i t t2 r b o len cap x
  split at h
  ·rename_i e hu hi
   split at h
   ·rename_i s hs
    split at h
    ·rename_i n cells rs hsrc
     split at h
     ·rename_i C ty hl
      cases hok:cells.all HO with
      |false=>simp [hok] at h
      | true=>
       simp only [hok,cond_true] at h
       split at h
       ·rename_i C' hp
        injection h with h; subst h
        have hb:=hh b (by simp)
        have hsrc':GP H' s x=some (n,cells,rs):=by
         unfold GP at hsrc ⊢
         split at hsrc
         ·exact hsrc
         ·rename_i b2 o2 m c2
          split at hsrc
          ·rename_i C2 ty2 hl2
           split at hsrc
           ·rename_i l2 hc2
            simp only [zS,zP] at hsrc
            obtain ⟨rfl,rfl,rfl⟩:=hsrc
            have hb2:=hh b2 (by simp)
            simp [hb2,hl2,hc2]
           ·simp at hsrc
          ·simp at hsrc
         ·simp at hsrc
        simp [hu,hi,hs,hsrc',hb,hl,hok,hp]
       ·simp at h
     ·rename_i k xs2 ty hl
      split at h
      ·rename_i vs hvs
       injection h with h; subst h
       have hb:=hh b (by simp)
       have hsrc':GP H' s x=some (n,cells,rs):=by
        unfold GP at hsrc ⊢
        split at hsrc
        ·exact hsrc
        ·rename_i b2 o2 m c2
         split at hsrc
         ·rename_i C2 ty2 hl2
          split at hsrc
          ·rename_i l2 hc2
           simp only [zS,zP] at hsrc
           obtain ⟨rfl,rfl,rfl⟩:=hsrc
           have hb2:=hh b2 (by simp)
           simp [hb2,hl2,hc2]
          ·simp at hsrc
         ·simp at hsrc
        ·simp at hsrc
       simp [hu,hi,hs,hsrc',hb,hl,hvs]
      ·simp at h
     ·simp at h
    ·simp at h
   ·simp at h
  ·simp at h
 ·simp at h
theorem effX_H {P:Program} {nm:Nat} {o:Oper} {T:List Value} {H H':Heap} {rc:Rc} (h:effX P nm o T H=some rc) (hh:∀n∈rc.r.rs,look H' n=look H n):effX P nm o T H'=some rc:=by
 unfold effX at h ⊢
 cases hall:o.op.operands.toList.all (evOk T) with
 |false=>rw [hall] at h; simp at h
 | true=>
  rw [hall] at h
  simp only [cond_true] at h ⊢
  split at h
  all_goals rename_i ho
  any_goals exact h
  ·exact RD h hh
  ·split at h
   ·exact NV h hh
   ·simp at h
theorem Q0 {P:Program} {nm:Nat} {o:Oper} {T:List Value} {H:Heap} {rc:Rc} (h:effX P nm o T H=some rc) (H':Heap):GU P nm o T H'=none:=by
 unfold effX at h
 unfold GU
 cases hall:o.op.operands.toList.all (evOk T) with
 |false=>rfl
 | true=>
  rw [hall] at h
  simp only [cond_true] at h ⊢
  split at h
  ·rename_i t x i ho
   unfold IF at h
   split at h
   ·rename_i b' o' s' k n hx hi
    simp [ho,hx,hi,GH]
   ·simp at h
  ·rename_i t x ho
   unfold JH at h
   split at h
   ·rename_i b' o' s' hx
    simp [ho,hx,HM]
   ·simp at h
  ·rename_i t x lo hi ho; simp [ho]
  ·rename_i t l c ho; simp [ho]
  ·rename_i s d x ho
   unfold Il at h
   split at h
   ·rename_i hx; simp [ho,hx,JJ]
   ·rename_i hx; simp [ho,hx,JJ]
   ·simp at h
  ·rename_i c ho
   split at h
   ·rename_i hb; simp [ho,hb,HN]
   ·simp at h
  ·simp at h
theorem RE {P:Program} {nm:Nat} {o:Oper} {T T':List Value} {H:Heap} (hop:GU P nm o T' H=GU P nm o T H) (h:∀x∈o.op.operands.toList,ev T' x=ev T x):effC P nm o T' H=effC P nm o T H:=by
 unfold effC
 rw [hop,effX_T h]
theorem RF {P:Program} {nm:Nat} {o:Oper} {T:List Value} {H H':Heap} {rc:Rc} (hop:∀rc',GU P nm o T H=some rc'→(∀n∈rc'.r.rs,look H' n=look H n)→GU P nm o T H'=some rc') (h:effC P nm o T H=some rc) (hh:∀n∈rc.r.rs,look H' n=look H n):effC P nm o T H'=some rc:=by
 unfold effC at h ⊢
 split at h
 ·rename_i rc' hrc
  injection h with h; subst h
  rw [hop _ hrc hh]
 ·rw [Q0 h H']
  exact effX_H h hh
end RX
end
