/- A part of what the law's proof leans on. PACKED BY pack.py of this repo. -/
import Derived.Test.YtpejalpgficopaaGreatDoorF6
set_option linter.unusedVariables false
set_option linter.unusedSimpArgs false
set_option linter.unusedSectionVars false
set_option linter.defProp false
set_option maxRecDepth 100000
open Go.IntKind (i64 u64 u32)
section
namespace Go.Proofs.YtpejalpgficopaaGreatDoor.G
open Go Go.Proofs RX
def GE (k:Nat):Int:=((2^k:Nat):Int)/2
theorem ON:GE 0=0:=by decide
theorem HR (k:Nat):GE (k+1)=((2^k:Nat):Int):=by
 unfold GE
 rw [Nat.pow_succ]
 omega
def root.tree (n r bit:Int) (d1 z d5 d6 d7 d8 d9 d10 d11 d12 d13 d14 d15 d16 d17 d18 d19:Value):Option (X×List Value×Heap):=
 bif decide (bit>0) then
  bif i64.wrap (r+bit) !=0 then
   bif decide (i64.wrap (r+bit)≤i64.wrap (n.tdiv (i64.wrap (r+bit)))) then
    some (.normal,[.int .i64 n,d1,z,.int .i64 (i64.wrap (r+bit)),.int .i64 (bit.fdiv (2^min (Int.toNat 1) i64.bits)),.int .i64 (i64.wrap (r+bit)),.int .i64 bit,.bool true,.int .i64 bit,.int .i64 (bit.fdiv (2^min (Int.toNat 1) i64.bits)),.int .i64 r,.int .i64 bit,.int .i64 (i64.wrap (r+bit)),.int .i64 (i64.wrap (r+bit)),.int .i64 n,.int .i64 (i64.wrap (r+bit)),.int .i64 (i64.wrap (n.tdiv (i64.wrap (r+bit)))),.bool true,.int .i64 (i64.wrap (r+bit)),d19],[])
   else
    some (.normal,[.int .i64 n,d1,z,.int .i64 r,.int .i64 (bit.fdiv (2^min (Int.toNat 1) i64.bits)),.int .i64 (i64.wrap (r+bit)),.int .i64 bit,.bool true,.int .i64 bit,.int .i64 (bit.fdiv (2^min (Int.toNat 1) i64.bits)),.int .i64 r,.int .i64 bit,.int .i64 (i64.wrap (r+bit)),.int .i64 (i64.wrap (r+bit)),.int .i64 n,.int .i64 (i64.wrap (r+bit)),.int .i64 (i64.wrap (n.tdiv (i64.wrap (r+bit)))),.bool false,d18,d19],[])
  else
   none
 else
  some (.exit 0,[.int .i64 n,d1,z,.int .i64 r,.int .i64 bit,d5,.int .i64 bit,.bool false,d8,d9,d10,d11,d12,d13,d14,d15,d16,d17,d18,d19],[])
theorem root.round (n r bit:Int) (d1 z d5 d6 d7 d8 d9 d10 d11 d12 d13 d14 d15 d16 d17 d18 d19:Value) (nx:Nat):exec Tryz.prog ⟨[],[],[]⟩ [] (hs Tryz.prog ⟨[],[],[]⟩ 3).lf (hs Tryz.prog ⟨[],[],[]⟩ 3).cf (Ay Tryz.f130 0) ⟨[.int .i64 n,d1,z,.int .i64 r,.int .i64 bit,d5,d6,d7,d8,d9,d10,d11,d12,d13,d14,d15,d16,d17,d18,d19],[],nx⟩ (fun x S=>some (x,S.tmps,S.heap))=root.tree n r bit d1 z d5 d6 d7 d8 d9 d10 d11 d12 d13 d14 d15 d16 d17 d18 d19:=by kernel_rfl
def root.fin:Nat→List Value→List Value
 |0,T=>T
 | k+1,[.int .i64 n,d1,z,.int .i64 r,.int .i64 bit,d5,d6,d7,d8,d9,d10,d11,d12,d13,d14,d15,d16,d17,d18,d19]=>(match root.tree n r bit d1 z d5 d6 d7 d8 d9 d10 d11 d12 d13 d14 d15 d16 d17 d18 d19 with
  |some (.normal,T,_)=>root.fin k T
  |some (_,T,_)=>T
  |none=>[])
 |_+1,T=>T
def root.rt:Nat→Int→Int→Int
 |0,n,r=>r
 |k+1,n,r=>root.rt k n (if i64.wrap (r+GE (k+1))≤i64.wrap (n.tdiv (i64.wrap (r+GE (k+1)))) then i64.wrap (r+GE (k+1)) else r)
theorem RT (k:Nat):(GE (k+1)).fdiv (2^min (Int.toNat 1) i64.bits)=GE k:=by
 rw [HR]
 show (((2^k:Nat):Int)).fdiv 2=GE k
 rw [Int.fdiv_eq_ediv_of_nonneg _ (by omega)]
 rfl
theorem RU {k:Nat} (h:k≤32):0≤GE k∧GE k≤2147483648:=by
 have:2^k≤2^32:=Nat.pow_le_pow_right (by omega) h
 unfold GE
 generalize 2^k=m at*
 omega
theorem root.lp:∀(k:Nat) (n r bit:Int) (d1 z d5 d6 d7 d8 d9 d10 d11 d12 d13 d14 d15 d16 d17 d18 d19:Value) (nx:Nat),k≤32→bit=GE k→0≤r→r+2*bit≤4294967296→
  Lp Tryz.prog ⟨[],[],[]⟩ [] 3 (Ay Tryz.f130 0) ⟨[.int .i64 n,d1,z,.int .i64 r,.int .i64 bit,d5,d6,d7,d8,d9,d10,d11,d12,d13,d14,d15,d16,d17,d18,d19],[],nx⟩ (.exit 0) ⟨[.int .i64 n,RX.nth (root.fin (k+1) [.int .i64 n,d1,z,.int .i64 r,.int .i64 bit,d5,d6,d7,d8,d9,d10,d11,d12,d13,d14,d15,d16,d17,d18,d19]) 1,RX.nth (root.fin (k+1) [.int .i64 n,d1,z,.int .i64 r,.int .i64 bit,d5,d6,d7,d8,d9,d10,d11,d12,d13,d14,d15,d16,d17,d18,d19]) 2,.int .i64 (root.rt k n r),RX.nth (root.fin (k+1) [.int .i64 n,d1,z,.int .i64 r,.int .i64 bit,d5,d6,d7,d8,d9,d10,d11,d12,d13,d14,d15,d16,d17,d18,d19]) 4,RX.nth (root.fin (k+1) [.int .i64 n,d1,z,.int .i64 r,.int .i64 bit,d5,d6,d7,d8,d9,d10,d11,d12,d13,d14,d15,d16,d17,d18,d19]) 5,RX.nth (root.fin (k+1) [.int .i64 n,d1,z,.int .i64 r,.int .i64 bit,d5,d6,d7,d8,d9,d10,d11,d12,d13,d14,d15,d16,d17,d18,d19]) 6,RX.nth (root.fin (k+1) [.int .i64 n,d1,z,.int .i64 r,.int .i64 bit,d5,d6,d7,d8,d9,d10,d11,d12,d13,d14,d15,d16,d17,d18,d19]) 7,RX.nth (root.fin (k+1) [.int .i64 n,d1,z,.int .i64 r,.int .i64 bit,d5,d6,d7,d8,d9,d10,d11,d12,d13,d14,d15,d16,d17,d18,d19]) 8,RX.nth (root.fin (k+1) [.int .i64 n,d1,z,.int .i64 r,.int .i64 bit,d5,d6,d7,d8,d9,d10,d11,d12,d13,d14,d15,d16,d17,d18,d19]) 9,RX.nth (root.fin (k+1) [.int .i64 n,d1,z,.int .i64 r,.int .i64 bit,d5,d6,d7,d8,d9,d10,d11,d12,d13,d14,d15,d16,d17,d18,d19]) 10,RX.nth (root.fin (k+1) [.int .i64 n,d1,z,.int .i64 r,.int .i64 bit,d5,d6,d7,d8,d9,d10,d11,d12,d13,d14,d15,d16,d17,d18,d19]) 11,RX.nth (root.fin (k+1) [.int .i64 n,d1,z,.int .i64 r,.int .i64 bit,d5,d6,d7,d8,d9,d10,d11,d12,d13,d14,d15,d16,d17,d18,d19]) 12,RX.nth (root.fin (k+1) [.int .i64 n,d1,z,.int .i64 r,.int .i64 bit,d5,d6,d7,d8,d9,d10,d11,d12,d13,d14,d15,d16,d17,d18,d19]) 13,RX.nth (root.fin (k+1) [.int .i64 n,d1,z,.int .i64 r,.int .i64 bit,d5,d6,d7,d8,d9,d10,d11,d12,d13,d14,d15,d16,d17,d18,d19]) 14,RX.nth (root.fin (k+1) [.int .i64 n,d1,z,.int .i64 r,.int .i64 bit,d5,d6,d7,d8,d9,d10,d11,d12,d13,d14,d15,d16,d17,d18,d19]) 15,RX.nth (root.fin (k+1) [.int .i64 n,d1,z,.int .i64 r,.int .i64 bit,d5,d6,d7,d8,d9,d10,d11,d12,d13,d14,d15,d16,d17,d18,d19]) 16,RX.nth (root.fin (k+1) [.int .i64 n,d1,z,.int .i64 r,.int .i64 bit,d5,d6,d7,d8,d9,d10,d11,d12,d13,d14,d15,d16,d17,d18,d19]) 17,RX.nth (root.fin (k+1) [.int .i64 n,d1,z,.int .i64 r,.int .i64 bit,d5,d6,d7,d8,d9,d10,d11,d12,d13,d14,d15,d16,d17,d18,d19]) 18,RX.nth (root.fin (k+1) [.int .i64 n,d1,z,.int .i64 r,.int .i64 bit,d5,d6,d7,d8,d9,d10,d11,d12,d13,d14,d15,d16,d17,d18,d19]) 19],[],nx⟩
 | 0,n,r,bit,d1,z,d5,d6,d7,d8,d9,d10,d11,d12,d13,d14,d15,d16,d17,d18,d19,nx,hk,hb,hr,hr'=>by
  rw [ON] at hb
  subst hb
  have ht:root.tree n r 0 d1 z d5 d6 d7 d8 d9 d10 d11 d12 d13 d14 d15 d16 d17 d18 d19=some (.exit 0,[.int .i64 n,d1,z,.int .i64 r,.int .i64 0,d5,.int .i64 0,.bool false,d8,d9,d10,d11,d12,d13,d14,d15,d16,d17,d18,d19],[]):=rfl
  have hf:root.fin 1 [.int .i64 n,d1,z,.int .i64 r,.int .i64 0,d5,d6,d7,d8,d9,d10,d11,d12,d13,d14,d15,d16,d17,d18,d19]=[.int .i64 n,d1,z,.int .i64 r,.int .i64 0,d5,.int .i64 0,.bool false,d8,d9,d10,d11,d12,d13,d14,d15,d16,d17,d18,d19]:=by simp only [root.fin,ht]
  rw [hf]
  simp only [RX.nth,root.rt]
  refine Lp.done ((root.round n r 0 d1 z d5 d6 d7 d8 d9 d10 d11 d12 d13 d14 d15 d16 d17 d18 d19 nx).trans ht) trivial (fun h=>h.of fun v hv=>by
   simp only [List.mem_cons,List.not_mem_nil,or_false] at hv
   rcases hv with rfl|rfl|rfl|rfl|rfl|rfl|rfl|rfl|rfl|rfl|rfl|rfl|rfl|rfl|rfl|rfl|rfl|rfl|rfl|rfl<;>first|exact .inl (clo_spec 8 _ rfl)|exact .inr (by simp))
 | k + 1,n,r,bit,d1,z,d5,d6,d7,d8,d9,d10,d11,d12,d13,d14,d15,d16,d17,d18,d19,nx,hk,hb,hr,hr'=>by
  have hbl:=RU hk
  have hb0:0<bit:=by rw [hb,HR]; have:=Nat.two_pow_pos k; omega
  have hw:i64.wrap (r+bit)=r+bit:=w64 (by omega) (by omega)
  have hbit:bit.fdiv (2^min (Int.toNat 1) i64.bits)=GE k:=by rw [hb]; exact RT k
  have hd1:decide (bit>0)=true:=decide_eq_true hb0
  have hd2:(i64.wrap (r+bit) !=0)=true:=E8 (by omega)
  have h2:2*GE k≤bit:=by
   rw [hb,HR]
   unfold GE
   omega
  by_cases hc:i64.wrap (r+bit)≤i64.wrap (n.tdiv (i64.wrap (r+bit)))
  ·have ht:root.tree n r bit d1 z d5 d6 d7 d8 d9 d10 d11 d12 d13 d14 d15 d16 d17 d18 d19=some (.normal,[.int .i64 n,d1,z,.int .i64 (i64.wrap (r+bit)),.int .i64 (bit.fdiv (2^min (Int.toNat 1) i64.bits)),.int .i64 (i64.wrap (r+bit)),.int .i64 bit,.bool true,.int .i64 bit,.int .i64 (bit.fdiv (2^min (Int.toNat 1) i64.bits)),.int .i64 r,.int .i64 bit,.int .i64 (i64.wrap (r+bit)),.int .i64 (i64.wrap (r+bit)),.int .i64 n,.int .i64 (i64.wrap (r+bit)),.int .i64 (i64.wrap (n.tdiv (i64.wrap (r+bit)))),.bool true,.int .i64 (i64.wrap (r+bit)),d19],[]):=by
    simp only [root.tree,hd1,hd2,decide_eq_true hc,cond_true]
   have hf:root.fin (k+1+1) [.int .i64 n,d1,z,.int .i64 r,.int .i64 bit,d5,d6,d7,d8,d9,d10,d11,d12,d13,d14,d15,d16,d17,d18,d19]=root.fin (k+1) [.int .i64 n,d1,z,.int .i64 (i64.wrap (r+bit)),.int .i64 (bit.fdiv (2^min (Int.toNat 1) i64.bits)),.int .i64 (i64.wrap (r+bit)),.int .i64 bit,.bool true,.int .i64 bit,.int .i64 (bit.fdiv (2^min (Int.toNat 1) i64.bits)),.int .i64 r,.int .i64 bit,.int .i64 (i64.wrap (r+bit)),.int .i64 (i64.wrap (r+bit)),.int .i64 n,.int .i64 (i64.wrap (r+bit)),.int .i64 (i64.wrap (n.tdiv (i64.wrap (r+bit)))),.bool true,.int .i64 (i64.wrap (r+bit)),d19]:=by simp only [root.fin,ht]
   have hrt:root.rt (k+1) n r=root.rt k n (i64.wrap (r+bit)):=by
    rw [root.rt,←hb,if_pos hc]
   rw [hf,hrt]
   refine Lp.more ((root.round n r bit d1 z d5 d6 d7 d8 d9 d10 d11 d12 d13 d14 d15 d16 d17 d18 d19 nx).trans ht) (fun h=>h.of fun v hv=>by
   simp only [List.mem_cons,List.not_mem_nil,or_false] at hv
   rcases hv with rfl|rfl|rfl|rfl|rfl|rfl|rfl|rfl|rfl|rfl|rfl|rfl|rfl|rfl|rfl|rfl|rfl|rfl|rfl|rfl<;>first|exact .inl (clo_spec 8 _ rfl)|exact .inr (by simp)) ?_
   exact root.lp k _ _ _ _ _ _ _ _ _ _ _ _ _ _ _ _ _ _ _ _ nx (by omega) hbit (by omega) (by omega)
  ·have ht:root.tree n r bit d1 z d5 d6 d7 d8 d9 d10 d11 d12 d13 d14 d15 d16 d17 d18 d19=some (.normal,[.int .i64 n,d1,z,.int .i64 r,.int .i64 (bit.fdiv (2^min (Int.toNat 1) i64.bits)),.int .i64 (i64.wrap (r+bit)),.int .i64 bit,.bool true,.int .i64 bit,.int .i64 (bit.fdiv (2^min (Int.toNat 1) i64.bits)),.int .i64 r,.int .i64 bit,.int .i64 (i64.wrap (r+bit)),.int .i64 (i64.wrap (r+bit)),.int .i64 n,.int .i64 (i64.wrap (r+bit)),.int .i64 (i64.wrap (n.tdiv (i64.wrap (r+bit)))),.bool false,d18,d19],[]):=by
    simp only [root.tree,hd1,hd2,decide_eq_false hc,cond_true,cond_false]
   have hf:root.fin (k+1+1) [.int .i64 n,d1,z,.int .i64 r,.int .i64 bit,d5,d6,d7,d8,d9,d10,d11,d12,d13,d14,d15,d16,d17,d18,d19]=root.fin (k+1) [.int .i64 n,d1,z,.int .i64 r,.int .i64 (bit.fdiv (2^min (Int.toNat 1) i64.bits)),.int .i64 (i64.wrap (r+bit)),.int .i64 bit,.bool true,.int .i64 bit,.int .i64 (bit.fdiv (2^min (Int.toNat 1) i64.bits)),.int .i64 r,.int .i64 bit,.int .i64 (i64.wrap (r+bit)),.int .i64 (i64.wrap (r+bit)),.int .i64 n,.int .i64 (i64.wrap (r+bit)),.int .i64 (i64.wrap (n.tdiv (i64.wrap (r+bit)))),.bool false,d18,d19]:=by simp only [root.fin,ht]
   have hrt:root.rt (k+1) n r=root.rt k n r:=by
    rw [root.rt,←hb,if_neg hc]
   rw [hf,hrt]
   refine Lp.more ((root.round n r bit d1 z d5 d6 d7 d8 d9 d10 d11 d12 d13 d14 d15 d16 d17 d18 d19 nx).trans ht) (fun h=>h.of fun v hv=>by
   simp only [List.mem_cons,List.not_mem_nil,or_false] at hv
   rcases hv with rfl|rfl|rfl|rfl|rfl|rfl|rfl|rfl|rfl|rfl|rfl|rfl|rfl|rfl|rfl|rfl|rfl|rfl|rfl|rfl<;>first|exact .inl (clo_spec 8 _ rfl)|exact .inr (by simp)) ?_
   exact root.lp k _ _ _ _ _ _ _ _ _ _ _ _ _ _ _ _ _ _ _ _ nx (by omega) hbit (by omega) (by omega)
def root.t:LSpec1
 |⟨[.int .i64 n,d1,z,.int .i64 r,.int .i64 bit,d5,d6,d7,d8,d9,d10,d11,d12,d13,d14,d15,d16,d17,d18,d19],[],nx⟩=>some (decide (r=0)&&decide (bit=2147483648),.exit 0,⟨[.int .i64 n,RX.nth (root.fin 33 [.int .i64 n,d1,z,.int .i64 r,.int .i64 bit,d5,d6,d7,d8,d9,d10,d11,d12,d13,d14,d15,d16,d17,d18,d19]) 1,RX.nth (root.fin 33 [.int .i64 n,d1,z,.int .i64 r,.int .i64 bit,d5,d6,d7,d8,d9,d10,d11,d12,d13,d14,d15,d16,d17,d18,d19]) 2,.int .i64 (root.rt 32 n 0),RX.nth (root.fin 33 [.int .i64 n,d1,z,.int .i64 r,.int .i64 bit,d5,d6,d7,d8,d9,d10,d11,d12,d13,d14,d15,d16,d17,d18,d19]) 4,RX.nth (root.fin 33 [.int .i64 n,d1,z,.int .i64 r,.int .i64 bit,d5,d6,d7,d8,d9,d10,d11,d12,d13,d14,d15,d16,d17,d18,d19]) 5,RX.nth (root.fin 33 [.int .i64 n,d1,z,.int .i64 r,.int .i64 bit,d5,d6,d7,d8,d9,d10,d11,d12,d13,d14,d15,d16,d17,d18,d19]) 6,RX.nth (root.fin 33 [.int .i64 n,d1,z,.int .i64 r,.int .i64 bit,d5,d6,d7,d8,d9,d10,d11,d12,d13,d14,d15,d16,d17,d18,d19]) 7,RX.nth (root.fin 33 [.int .i64 n,d1,z,.int .i64 r,.int .i64 bit,d5,d6,d7,d8,d9,d10,d11,d12,d13,d14,d15,d16,d17,d18,d19]) 8,RX.nth (root.fin 33 [.int .i64 n,d1,z,.int .i64 r,.int .i64 bit,d5,d6,d7,d8,d9,d10,d11,d12,d13,d14,d15,d16,d17,d18,d19]) 9,RX.nth (root.fin 33 [.int .i64 n,d1,z,.int .i64 r,.int .i64 bit,d5,d6,d7,d8,d9,d10,d11,d12,d13,d14,d15,d16,d17,d18,d19]) 10,RX.nth (root.fin 33 [.int .i64 n,d1,z,.int .i64 r,.int .i64 bit,d5,d6,d7,d8,d9,d10,d11,d12,d13,d14,d15,d16,d17,d18,d19]) 11,RX.nth (root.fin 33 [.int .i64 n,d1,z,.int .i64 r,.int .i64 bit,d5,d6,d7,d8,d9,d10,d11,d12,d13,d14,d15,d16,d17,d18,d19]) 12,RX.nth (root.fin 33 [.int .i64 n,d1,z,.int .i64 r,.int .i64 bit,d5,d6,d7,d8,d9,d10,d11,d12,d13,d14,d15,d16,d17,d18,d19]) 13,RX.nth (root.fin 33 [.int .i64 n,d1,z,.int .i64 r,.int .i64 bit,d5,d6,d7,d8,d9,d10,d11,d12,d13,d14,d15,d16,d17,d18,d19]) 14,RX.nth (root.fin 33 [.int .i64 n,d1,z,.int .i64 r,.int .i64 bit,d5,d6,d7,d8,d9,d10,d11,d12,d13,d14,d15,d16,d17,d18,d19]) 15,RX.nth (root.fin 33 [.int .i64 n,d1,z,.int .i64 r,.int .i64 bit,d5,d6,d7,d8,d9,d10,d11,d12,d13,d14,d15,d16,d17,d18,d19]) 16,RX.nth (root.fin 33 [.int .i64 n,d1,z,.int .i64 r,.int .i64 bit,d5,d6,d7,d8,d9,d10,d11,d12,d13,d14,d15,d16,d17,d18,d19]) 17,RX.nth (root.fin 33 [.int .i64 n,d1,z,.int .i64 r,.int .i64 bit,d5,d6,d7,d8,d9,d10,d11,d12,d13,d14,d15,d16,d17,d18,d19]) 18,RX.nth (root.fin 33 [.int .i64 n,d1,z,.int .i64 r,.int .i64 bit,d5,d6,d7,d8,d9,d10,d11,d12,d13,d14,d15,d16,d17,d18,d19]) 19],[],nx⟩)
 |_=>none
theorem root.lok:LOK Tryz.prog (Ay Tryz.f130 0) (one1 root.t):=by
 refine Qk (E:=⟨[],[],[]⟩) (L:=[]) (f:=3) ⟨Ac,Aq,Aj,Ap⟩ Bs fun S x S' h=> ?_
 unfold root.t at h
 split at h
 ·simp only [zS,zP,zB,zD] at h
  obtain ⟨⟨rfl,rfl⟩,rfl,rfl⟩:=h
  exact root.lp 32 _ _ _ _ _ _ _ _ _ _ _ _ _ _ _ _ _ _ _ _ _ (by omega) (by decide) (by omega) (by omega)
 ·cases h
def FV.sp:HSpec
 |[.int .i64 n],[]=>some (true,.int .i64 (root.rt 32 n 0),[])
 |_,_=>none
theorem root.run (n:Int):xfn Tryz.prog ⟨[],[],[]⟩ [(0,one1 root.t)] 10 Tryz.f130 [.int .i64 n] []=some (.int .i64 (root.rt 32 n 0),[]):=by kernel_rfl
theorem FV.ok:SOK Tryz.prog 130 FV.sp:=by
 refine Dl (E:=⟨[],[],[]⟩) (L:=[(0,one1 root.t)]) ⟨Ac,Aq,Aj,Ap⟩ 10 Tryz.func130 (by decide) rfl (F2 rfl rfl root.lok) fun vs bl v bl' h=> ?_
 unfold FV.sp at h
 split at h
 ·simp only [zS,zP,true_and] at h
  obtain ⟨rfl,rfl⟩:=h
  exact ⟨root.run _,by simp [okV,Nat.blt],clo_spec 8 _ rfl,Bg rfl⟩
 ·cases h
def rroot.tree (n r bit:Int) (d1 z d5 d6 d7 d8 d9 d10 d11 d12 d13 d14 d15 d16 d17 d18 d19 d20 d21 d22 d23 d24:Value):Option (X×List Value×Heap):=
 bif decide (bit≥0) then
  bif decide (0≤bit) then
   bif decide (i64.wrap (r+i64.wrap (1*2^min bit.toNat i64.bits))≤3037000499) then
    bif decide (i64.wrap (i64.wrap (r+i64.wrap (1*2^min bit.toNat i64.bits))*i64.wrap (r+i64.wrap (1*2^min bit.toNat i64.bits)))≤n) then
     some (.normal,[.int .i64 n,d1,z,.int .i64 (i64.wrap (r+i64.wrap (1*2^min bit.toNat i64.bits))),.int .i64 (i64.wrap (bit-1)),.int .i64 (i64.wrap (r+i64.wrap (1*2^min bit.toNat i64.bits))),.int .i64 bit,.bool true,.int .i64 bit,.int .i64 (i64.wrap (bit-1)),.int .i64 r,.int .i64 bit,.int .i64 (i64.wrap (1*2^min bit.toNat i64.bits)),.int .i64 (i64.wrap (r+i64.wrap (1*2^min bit.toNat i64.bits))),.int .i64 (i64.wrap (r+i64.wrap (1*2^min bit.toNat i64.bits))),.bool (decide (i64.wrap (r+i64.wrap (1*2^min bit.toNat i64.bits))≤3037000499)),.bool true,.int .i64 (i64.wrap (r+i64.wrap (1*2^min bit.toNat i64.bits))),.int .i64 (i64.wrap (r+i64.wrap (1*2^min bit.toNat i64.bits))),.int .i64 (i64.wrap (i64.wrap (r+i64.wrap (1*2^min bit.toNat i64.bits))*i64.wrap (r+i64.wrap (1*2^min bit.toNat i64.bits)))),.int .i64 n,.bool (decide (i64.wrap (i64.wrap (r+i64.wrap (1*2^min bit.toNat i64.bits))*i64.wrap (r+i64.wrap (1*2^min bit.toNat i64.bits)))≤n)),.bool true,.int .i64 (i64.wrap (r+i64.wrap (1*2^min bit.toNat i64.bits))),d24],[])
    else
     some (.normal,[.int .i64 n,d1,z,.int .i64 r,.int .i64 (i64.wrap (bit-1)),.int .i64 (i64.wrap (r+i64.wrap (1*2^min bit.toNat i64.bits))),.int .i64 bit,.bool true,.int .i64 bit,.int .i64 (i64.wrap (bit-1)),.int .i64 r,.int .i64 bit,.int .i64 (i64.wrap (1*2^min bit.toNat i64.bits)),.int .i64 (i64.wrap (r+i64.wrap (1*2^min bit.toNat i64.bits))),.int .i64 (i64.wrap (r+i64.wrap (1*2^min bit.toNat i64.bits))),.bool (decide (i64.wrap (r+i64.wrap (1*2^min bit.toNat i64.bits))≤3037000499)),.bool true,.int .i64 (i64.wrap (r+i64.wrap (1*2^min bit.toNat i64.bits))),.int .i64 (i64.wrap (r+i64.wrap (1*2^min bit.toNat i64.bits))),.int .i64 (i64.wrap (i64.wrap (r+i64.wrap (1*2^min bit.toNat i64.bits))*i64.wrap (r+i64.wrap (1*2^min bit.toNat i64.bits)))),.int .i64 n,.bool (decide (i64.wrap (i64.wrap (r+i64.wrap (1*2^min bit.toNat i64.bits))*i64.wrap (r+i64.wrap (1*2^min bit.toNat i64.bits)))≤n)),.bool false,d23,d24],[])
   else
    some (.normal,[.int .i64 n,d1,z,.int .i64 r,.int .i64 (i64.wrap (bit-1)),.int .i64 (i64.wrap (r+i64.wrap (1*2^min bit.toNat i64.bits))),.int .i64 bit,.bool true,.int .i64 bit,.int .i64 (i64.wrap (bit-1)),.int .i64 r,.int .i64 bit,.int .i64 (i64.wrap (1*2^min bit.toNat i64.bits)),.int .i64 (i64.wrap (r+i64.wrap (1*2^min bit.toNat i64.bits))),.int .i64 (i64.wrap (r+i64.wrap (1*2^min bit.toNat i64.bits))),.bool (decide (i64.wrap (r+i64.wrap (1*2^min bit.toNat i64.bits))≤3037000499)),.bool false,.tuple ⟨[]⟩,.tuple ⟨[]⟩,.tuple ⟨[]⟩,.tuple ⟨[]⟩,.tuple ⟨[]⟩,.bool false,d23,d24],[])
  else
   none
 else
  some (.exit 0,[.int .i64 n,d1,z,.int .i64 r,.int .i64 bit,d5,.int .i64 bit,.bool false,d8,d9,d10,d11,d12,d13,d14,d15,d16,d17,d18,d19,d20,d21,d22,d23,d24],[])
theorem rroot.round (n r bit:Int) (d1 z d5 d6 d7 d8 d9 d10 d11 d12 d13 d14 d15 d16 d17 d18 d19 d20 d21 d22 d23 d24:Value) (nx:Nat):exec Tryz.prog ⟨[],[],[]⟩ [] (hs Tryz.prog ⟨[],[],[]⟩ 3).lf (hs Tryz.prog ⟨[],[],[]⟩ 3).cf (Ay Tryz.f181 0) ⟨[.int .i64 n,d1,z,.int .i64 r,.int .i64 bit,d5,d6,d7,d8,d9,d10,d11,d12,d13,d14,d15,d16,d17,d18,d19,d20,d21,d22,d23,d24],[],nx⟩ (fun x S=>some (x,S.tmps,S.heap))=rroot.tree n r bit d1 z d5 d6 d7 d8 d9 d10 d11 d12 d13 d14 d15 d16 d17 d18 d19 d20 d21 d22 d23 d24:=by kernel_rfl
def rroot.fin:Nat→List Value→List Value
 |0,T=>T
 | k+1,[.int .i64 n,d1,z,.int .i64 r,.int .i64 bit,d5,d6,d7,d8,d9,d10,d11,d12,d13,d14,d15,d16,d17,d18,d19,d20,d21,d22,d23,d24]=>(match rroot.tree n r bit d1 z d5 d6 d7 d8 d9 d10 d11 d12 d13 d14 d15 d16 d17 d18 d19 d20 d21 d22 d23 d24 with
  |some (.normal,T,_)=>rroot.fin k T
  |some (_,T,_)=>T
  |none=>[])
 |_+1,T=>T
def rroot.rt:Nat→Int→Int→Int
 |0,n,r=>r
 |k+1,n,r=>rroot.rt k n (if r+2^k≤3037000499∧(r+2^k)*(r+2^k)≤n then r+2^k else r)
theorem rroot.lp:∀(k:Nat) (n r bit:Int) (d1 z d5 d6 d7 d8 d9 d10 d11 d12 d13 d14 d15 d16 d17 d18 d19 d20 d21 d22 d23 d24:Value) (nx:Nat),k≤32→bit=(k:Int)-1→0≤r→r+((2^k:Nat):Int)≤4294967296→
  Lp Tryz.prog ⟨[],[],[]⟩ [] 3 (Ay Tryz.f181 0) ⟨[.int .i64 n,d1,z,.int .i64 r,.int .i64 bit,d5,d6,d7,d8,d9,d10,d11,d12,d13,d14,d15,d16,d17,d18,d19,d20,d21,d22,d23,d24],[],nx⟩ (.exit 0) ⟨[.int .i64 n,RX.nth (rroot.fin (k+1) [.int .i64 n,d1,z,.int .i64 r,.int .i64 bit,d5,d6,d7,d8,d9,d10,d11,d12,d13,d14,d15,d16,d17,d18,d19,d20,d21,d22,d23,d24]) 1,RX.nth (rroot.fin (k+1) [.int .i64 n,d1,z,.int .i64 r,.int .i64 bit,d5,d6,d7,d8,d9,d10,d11,d12,d13,d14,d15,d16,d17,d18,d19,d20,d21,d22,d23,d24]) 2,.int .i64 (rroot.rt k n r),RX.nth (rroot.fin (k+1) [.int .i64 n,d1,z,.int .i64 r,.int .i64 bit,d5,d6,d7,d8,d9,d10,d11,d12,d13,d14,d15,d16,d17,d18,d19,d20,d21,d22,d23,d24]) 4,RX.nth (rroot.fin (k+1) [.int .i64 n,d1,z,.int .i64 r,.int .i64 bit,d5,d6,d7,d8,d9,d10,d11,d12,d13,d14,d15,d16,d17,d18,d19,d20,d21,d22,d23,d24]) 5,RX.nth (rroot.fin (k+1) [.int .i64 n,d1,z,.int .i64 r,.int .i64 bit,d5,d6,d7,d8,d9,d10,d11,d12,d13,d14,d15,d16,d17,d18,d19,d20,d21,d22,d23,d24]) 6,RX.nth (rroot.fin (k+1) [.int .i64 n,d1,z,.int .i64 r,.int .i64 bit,d5,d6,d7,d8,d9,d10,d11,d12,d13,d14,d15,d16,d17,d18,d19,d20,d21,d22,d23,d24]) 7,RX.nth (rroot.fin (k+1) [.int .i64 n,d1,z,.int .i64 r,.int .i64 bit,d5,d6,d7,d8,d9,d10,d11,d12,d13,d14,d15,d16,d17,d18,d19,d20,d21,d22,d23,d24]) 8,RX.nth (rroot.fin (k+1) [.int .i64 n,d1,z,.int .i64 r,.int .i64 bit,d5,d6,d7,d8,d9,d10,d11,d12,d13,d14,d15,d16,d17,d18,d19,d20,d21,d22,d23,d24]) 9,RX.nth (rroot.fin (k+1) [.int .i64 n,d1,z,.int .i64 r,.int .i64 bit,d5,d6,d7,d8,d9,d10,d11,d12,d13,d14,d15,d16,d17,d18,d19,d20,d21,d22,d23,d24]) 10,RX.nth (rroot.fin (k+1) [.int .i64 n,d1,z,.int .i64 r,.int .i64 bit,d5,d6,d7,d8,d9,d10,d11,d12,d13,d14,d15,d16,d17,d18,d19,d20,d21,d22,d23,d24]) 11,RX.nth (rroot.fin (k+1) [.int .i64 n,d1,z,.int .i64 r,.int .i64 bit,d5,d6,d7,d8,d9,d10,d11,d12,d13,d14,d15,d16,d17,d18,d19,d20,d21,d22,d23,d24]) 12,RX.nth (rroot.fin (k+1) [.int .i64 n,d1,z,.int .i64 r,.int .i64 bit,d5,d6,d7,d8,d9,d10,d11,d12,d13,d14,d15,d16,d17,d18,d19,d20,d21,d22,d23,d24]) 13,RX.nth (rroot.fin (k+1) [.int .i64 n,d1,z,.int .i64 r,.int .i64 bit,d5,d6,d7,d8,d9,d10,d11,d12,d13,d14,d15,d16,d17,d18,d19,d20,d21,d22,d23,d24]) 14,RX.nth (rroot.fin (k+1) [.int .i64 n,d1,z,.int .i64 r,.int .i64 bit,d5,d6,d7,d8,d9,d10,d11,d12,d13,d14,d15,d16,d17,d18,d19,d20,d21,d22,d23,d24]) 15,RX.nth (rroot.fin (k+1) [.int .i64 n,d1,z,.int .i64 r,.int .i64 bit,d5,d6,d7,d8,d9,d10,d11,d12,d13,d14,d15,d16,d17,d18,d19,d20,d21,d22,d23,d24]) 16,RX.nth (rroot.fin (k+1) [.int .i64 n,d1,z,.int .i64 r,.int .i64 bit,d5,d6,d7,d8,d9,d10,d11,d12,d13,d14,d15,d16,d17,d18,d19,d20,d21,d22,d23,d24]) 17,RX.nth (rroot.fin (k+1) [.int .i64 n,d1,z,.int .i64 r,.int .i64 bit,d5,d6,d7,d8,d9,d10,d11,d12,d13,d14,d15,d16,d17,d18,d19,d20,d21,d22,d23,d24]) 18,RX.nth (rroot.fin (k+1) [.int .i64 n,d1,z,.int .i64 r,.int .i64 bit,d5,d6,d7,d8,d9,d10,d11,d12,d13,d14,d15,d16,d17,d18,d19,d20,d21,d22,d23,d24]) 19,RX.nth (rroot.fin (k+1) [.int .i64 n,d1,z,.int .i64 r,.int .i64 bit,d5,d6,d7,d8,d9,d10,d11,d12,d13,d14,d15,d16,d17,d18,d19,d20,d21,d22,d23,d24]) 20,RX.nth (rroot.fin (k+1) [.int .i64 n,d1,z,.int .i64 r,.int .i64 bit,d5,d6,d7,d8,d9,d10,d11,d12,d13,d14,d15,d16,d17,d18,d19,d20,d21,d22,d23,d24]) 21,RX.nth (rroot.fin (k+1) [.int .i64 n,d1,z,.int .i64 r,.int .i64 bit,d5,d6,d7,d8,d9,d10,d11,d12,d13,d14,d15,d16,d17,d18,d19,d20,d21,d22,d23,d24]) 22,RX.nth (rroot.fin (k+1) [.int .i64 n,d1,z,.int .i64 r,.int .i64 bit,d5,d6,d7,d8,d9,d10,d11,d12,d13,d14,d15,d16,d17,d18,d19,d20,d21,d22,d23,d24]) 23,RX.nth (rroot.fin (k+1) [.int .i64 n,d1,z,.int .i64 r,.int .i64 bit,d5,d6,d7,d8,d9,d10,d11,d12,d13,d14,d15,d16,d17,d18,d19,d20,d21,d22,d23,d24]) 24],[],nx⟩
 | 0,n,r,bit,d1,z,d5,d6,d7,d8,d9,d10,d11,d12,d13,d14,d15,d16,d17,d18,d19,d20,d21,d22,d23,d24,nx,hk,hb,hr,hr'=>by
  have hb:bit= -1:=hb
  subst hb
  have ht:rroot.tree n r (-1) d1 z d5 d6 d7 d8 d9 d10 d11 d12 d13 d14 d15 d16 d17 d18 d19 d20 d21 d22 d23 d24=some (.exit 0,[.int .i64 n,d1,z,.int .i64 r,.int .i64 (-1),d5,.int .i64 (-1),.bool false,d8,d9,d10,d11,d12,d13,d14,d15,d16,d17,d18,d19,d20,d21,d22,d23,d24],[]):=rfl
  have hf:rroot.fin 1 [.int .i64 n,d1,z,.int .i64 r,.int .i64 (-1),d5,d6,d7,d8,d9,d10,d11,d12,d13,d14,d15,d16,d17,d18,d19,d20,d21,d22,d23,d24]=[.int .i64 n,d1,z,.int .i64 r,.int .i64 (-1),d5,.int .i64 (-1),.bool false,d8,d9,d10,d11,d12,d13,d14,d15,d16,d17,d18,d19,d20,d21,d22,d23,d24]:=by simp only [rroot.fin,ht]
  rw [hf]
  simp only [RX.nth,rroot.rt]
  refine Lp.done ((rroot.round n r (-1) d1 z d5 d6 d7 d8 d9 d10 d11 d12 d13 d14 d15 d16 d17 d18 d19 d20 d21 d22 d23 d24 nx).trans ht) trivial (fun h=>h.of fun v hv=>by
   simp only [List.mem_cons,List.not_mem_nil,or_false] at hv
   rcases hv with rfl|rfl|rfl|rfl|rfl|rfl|rfl|rfl|rfl|rfl|rfl|rfl|rfl|rfl|rfl|rfl|rfl|rfl|rfl|rfl|rfl|rfl|rfl|rfl|rfl<;>first|exact .inl (clo_spec 8 _ rfl)|exact .inr (by simp))
 | k + 1,n,r,bit,d1,z,d5,d6,d7,d8,d9,d10,d11,d12,d13,d14,d15,d16,d17,d18,d19,d20,d21,d22,d23,d24,nx,hk,hb,hr,hr'=>by
  have hbk:bit=(k:Int):=by omega
  have hp:2^k≤2^31:=Nat.pow_le_pow_right (by omega) (by omega)
  have hps:(2:Nat)^(k+1)=2^k*2:=Nat.pow_succ ..
  have hpi:((2^k:Nat):Int)=2^k:=by simp
  have hX:i64.wrap (r+i64.wrap (1*2^min bit.toNat i64.bits))=r+2^k:=by
   have e:min bit.toNat i64.bits=k:=by rw [hbk]; show min (Int.toNat (k:Int)) 64=k; omega
   rw [e,Int.one_mul,←hpi]
   generalize 2^k=m at*
   rw [w64 (n:=(m:Int)) (by omega) (by omega),w64 (by omega) (by omega)]
  have hd1:decide (bit≥0)=true:=decide_eq_true (by omega)
  have hd2:decide (0≤bit)=true:=decide_eq_true (by omega)
  have hbit:i64.wrap (bit-1)=(k:Int)-1:=by rw [hbk]; exact w64 (by omega) (by omega)
  rw [hps] at hr'
  have hr2:r+(2:Int)^k+((2^k:Nat):Int)≤4294967296:=by rw [←hpi]; generalize 2^k=m at*; omega
  have hr3:0≤r+(2:Int)^k:=by rw [←hpi]; generalize 2^k=m at*; omega
  have hr4:r+((2^k:Nat):Int)≤4294967296:=by generalize 2^k=m at*; omega
  by_cases hc:r+2^k≤3037000499
  ·have hc':decide (i64.wrap (r+i64.wrap (1*2^min bit.toNat i64.bits))≤3037000499)=true:=decide_eq_true (by rw [hX]; exact hc)
   have hW:i64.wrap (i64.wrap (r+i64.wrap (1*2^min bit.toNat i64.bits))*i64.wrap (r+i64.wrap (1*2^min bit.toNat i64.bits)))=(r+2^k)*(r+2^k):=by
    rw [hX]
    have:=MS (A:=3037000499) (B:=3037000499) (x:=r+2^k) (y:=r+2^k) (by omega) (by omega) (by omega) hc (by omega) hc
    exact w64 (by omega) (by omega)
   by_cases hq:(r+2^k)*(r+2^k)≤n
   ·have hq':decide (i64.wrap (i64.wrap (r+i64.wrap (1*2^min bit.toNat i64.bits))*i64.wrap (r+i64.wrap (1*2^min bit.toNat i64.bits)))≤n)=true:=decide_eq_true (by rw [hW]; exact hq)
    have hrt:rroot.rt (k+1) n r=rroot.rt k n (i64.wrap (r+i64.wrap (1*2^min bit.toNat i64.bits))):=by
     rw [rroot.rt,if_pos ⟨hc,hq⟩,hX]
    have ht:rroot.tree n r bit d1 z d5 d6 d7 d8 d9 d10 d11 d12 d13 d14 d15 d16 d17 d18 d19 d20 d21 d22 d23 d24=some (.normal,[.int .i64 n,d1,z,.int .i64 (i64.wrap (r+i64.wrap (1*2^min bit.toNat i64.bits))),.int .i64 (i64.wrap (bit-1)),.int .i64 (i64.wrap (r+i64.wrap (1*2^min bit.toNat i64.bits))),.int .i64 bit,.bool true,.int .i64 bit,.int .i64 (i64.wrap (bit-1)),.int .i64 r,.int .i64 bit,.int .i64 (i64.wrap (1*2^min bit.toNat i64.bits)),.int .i64 (i64.wrap (r+i64.wrap (1*2^min bit.toNat i64.bits))),.int .i64 (i64.wrap (r+i64.wrap (1*2^min bit.toNat i64.bits))),.bool (decide (i64.wrap (r+i64.wrap (1*2^min bit.toNat i64.bits))≤3037000499)),.bool true,.int .i64 (i64.wrap (r+i64.wrap (1*2^min bit.toNat i64.bits))),.int .i64 (i64.wrap (r+i64.wrap (1*2^min bit.toNat i64.bits))),.int .i64 (i64.wrap (i64.wrap (r+i64.wrap (1*2^min bit.toNat i64.bits))*i64.wrap (r+i64.wrap (1*2^min bit.toNat i64.bits)))),.int .i64 n,.bool (decide (i64.wrap (i64.wrap (r+i64.wrap (1*2^min bit.toNat i64.bits))*i64.wrap (r+i64.wrap (1*2^min bit.toNat i64.bits)))≤n)),.bool true,.int .i64 (i64.wrap (r+i64.wrap (1*2^min bit.toNat i64.bits))),d24],[]):=by
     simp only [rroot.tree,hd1,hd2,hc',hq',cond_true,cond_false]
    have hf:rroot.fin (k+1+1) [.int .i64 n,d1,z,.int .i64 r,.int .i64 bit,d5,d6,d7,d8,d9,d10,d11,d12,d13,d14,d15,d16,d17,d18,d19,d20,d21,d22,d23,d24]=rroot.fin (k+1) [.int .i64 n,d1,z,.int .i64 (i64.wrap (r+i64.wrap (1*2^min bit.toNat i64.bits))),.int .i64 (i64.wrap (bit-1)),.int .i64 (i64.wrap (r+i64.wrap (1*2^min bit.toNat i64.bits))),.int .i64 bit,.bool true,.int .i64 bit,.int .i64 (i64.wrap (bit-1)),.int .i64 r,.int .i64 bit,.int .i64 (i64.wrap (1*2^min bit.toNat i64.bits)),.int .i64 (i64.wrap (r+i64.wrap (1*2^min bit.toNat i64.bits))),.int .i64 (i64.wrap (r+i64.wrap (1*2^min bit.toNat i64.bits))),.bool (decide (i64.wrap (r+i64.wrap (1*2^min bit.toNat i64.bits))≤3037000499)),.bool true,.int .i64 (i64.wrap (r+i64.wrap (1*2^min bit.toNat i64.bits))),.int .i64 (i64.wrap (r+i64.wrap (1*2^min bit.toNat i64.bits))),.int .i64 (i64.wrap (i64.wrap (r+i64.wrap (1*2^min bit.toNat i64.bits))*i64.wrap (r+i64.wrap (1*2^min bit.toNat i64.bits)))),.int .i64 n,.bool (decide (i64.wrap (i64.wrap (r+i64.wrap (1*2^min bit.toNat i64.bits))*i64.wrap (r+i64.wrap (1*2^min bit.toNat i64.bits)))≤n)),.bool true,.int .i64 (i64.wrap (r+i64.wrap (1*2^min bit.toNat i64.bits))),d24]:=by simp only [rroot.fin,ht]
    rw [hf,hrt]
    refine Lp.more ((rroot.round n r bit d1 z d5 d6 d7 d8 d9 d10 d11 d12 d13 d14 d15 d16 d17 d18 d19 d20 d21 d22 d23 d24 nx).trans ht) (fun h=>h.of fun v hv=>by
    simp only [List.mem_cons,List.not_mem_nil,or_false] at hv
    rcases hv with rfl|rfl|rfl|rfl|rfl|rfl|rfl|rfl|rfl|rfl|rfl|rfl|rfl|rfl|rfl|rfl|rfl|rfl|rfl|rfl|rfl|rfl|rfl|rfl|rfl<;>first|exact .inl (clo_spec 8 _ rfl)|exact .inr (by simp)) ?_
    rw [hbit]
    exact rroot.lp k _ _ _ _ _ _ _ _ _ _ _ _ _ _ _ _ _ _ _ _ _ _ _ _ _ nx (by omega) rfl (by omega) (by omega)
   ·have hq':decide (i64.wrap (i64.wrap (r+i64.wrap (1*2^min bit.toNat i64.bits))*i64.wrap (r+i64.wrap (1*2^min bit.toNat i64.bits)))≤n)=false:=decide_eq_false (by rw [hW]; exact hq)
    have hrt:rroot.rt (k+1) n r=rroot.rt k n r:=by
     rw [rroot.rt,if_neg (fun h=>hq h.2)]
    have ht:rroot.tree n r bit d1 z d5 d6 d7 d8 d9 d10 d11 d12 d13 d14 d15 d16 d17 d18 d19 d20 d21 d22 d23 d24=some (.normal,[.int .i64 n,d1,z,.int .i64 r,.int .i64 (i64.wrap (bit-1)),.int .i64 (i64.wrap (r+i64.wrap (1*2^min bit.toNat i64.bits))),.int .i64 bit,.bool true,.int .i64 bit,.int .i64 (i64.wrap (bit-1)),.int .i64 r,.int .i64 bit,.int .i64 (i64.wrap (1*2^min bit.toNat i64.bits)),.int .i64 (i64.wrap (r+i64.wrap (1*2^min bit.toNat i64.bits))),.int .i64 (i64.wrap (r+i64.wrap (1*2^min bit.toNat i64.bits))),.bool (decide (i64.wrap (r+i64.wrap (1*2^min bit.toNat i64.bits))≤3037000499)),.bool true,.int .i64 (i64.wrap (r+i64.wrap (1*2^min bit.toNat i64.bits))),.int .i64 (i64.wrap (r+i64.wrap (1*2^min bit.toNat i64.bits))),.int .i64 (i64.wrap (i64.wrap (r+i64.wrap (1*2^min bit.toNat i64.bits))*i64.wrap (r+i64.wrap (1*2^min bit.toNat i64.bits)))),.int .i64 n,.bool (decide (i64.wrap (i64.wrap (r+i64.wrap (1*2^min bit.toNat i64.bits))*i64.wrap (r+i64.wrap (1*2^min bit.toNat i64.bits)))≤n)),.bool false,d23,d24],[]):=by
     simp only [rroot.tree,hd1,hd2,hc',hq',cond_true,cond_false]
    have hf:rroot.fin (k+1+1) [.int .i64 n,d1,z,.int .i64 r,.int .i64 bit,d5,d6,d7,d8,d9,d10,d11,d12,d13,d14,d15,d16,d17,d18,d19,d20,d21,d22,d23,d24]=rroot.fin (k+1) [.int .i64 n,d1,z,.int .i64 r,.int .i64 (i64.wrap (bit-1)),.int .i64 (i64.wrap (r+i64.wrap (1*2^min bit.toNat i64.bits))),.int .i64 bit,.bool true,.int .i64 bit,.int .i64 (i64.wrap (bit-1)),.int .i64 r,.int .i64 bit,.int .i64 (i64.wrap (1*2^min bit.toNat i64.bits)),.int .i64 (i64.wrap (r+i64.wrap (1*2^min bit.toNat i64.bits))),.int .i64 (i64.wrap (r+i64.wrap (1*2^min bit.toNat i64.bits))),.bool (decide (i64.wrap (r+i64.wrap (1*2^min bit.toNat i64.bits))≤3037000499)),.bool true,.int .i64 (i64.wrap (r+i64.wrap (1*2^min bit.toNat i64.bits))),.int .i64 (i64.wrap (r+i64.wrap (1*2^min bit.toNat i64.bits))),.int .i64 (i64.wrap (i64.wrap (r+i64.wrap (1*2^min bit.toNat i64.bits))*i64.wrap (r+i64.wrap (1*2^min bit.toNat i64.bits)))),.int .i64 n,.bool (decide (i64.wrap (i64.wrap (r+i64.wrap (1*2^min bit.toNat i64.bits))*i64.wrap (r+i64.wrap (1*2^min bit.toNat i64.bits)))≤n)),.bool false,d23,d24]:=by simp only [rroot.fin,ht]
    rw [hf,hrt]
    refine Lp.more ((rroot.round n r bit d1 z d5 d6 d7 d8 d9 d10 d11 d12 d13 d14 d15 d16 d17 d18 d19 d20 d21 d22 d23 d24 nx).trans ht) (fun h=>h.of fun v hv=>by
    simp only [List.mem_cons,List.not_mem_nil,or_false] at hv
    rcases hv with rfl|rfl|rfl|rfl|rfl|rfl|rfl|rfl|rfl|rfl|rfl|rfl|rfl|rfl|rfl|rfl|rfl|rfl|rfl|rfl|rfl|rfl|rfl|rfl|rfl<;>first|exact .inl (clo_spec 8 _ rfl)|exact .inr (by simp)) ?_
    rw [hbit]
    exact rroot.lp k _ _ _ _ _ _ _ _ _ _ _ _ _ _ _ _ _ _ _ _ _ _ _ _ _ nx (by omega) rfl (by omega) (by omega)
  ·have hc':decide (i64.wrap (r+i64.wrap (1*2^min bit.toNat i64.bits))≤3037000499)=false:=decide_eq_false (by rw [hX]; exact hc)
   have hrt:rroot.rt (k+1) n r=rroot.rt k n r:=by
    rw [rroot.rt,if_neg (fun h=>hc h.1)]
   have ht:rroot.tree n r bit d1 z d5 d6 d7 d8 d9 d10 d11 d12 d13 d14 d15 d16 d17 d18 d19 d20 d21 d22 d23 d24=some (.normal,[.int .i64 n,d1,z,.int .i64 r,.int .i64 (i64.wrap (bit-1)),.int .i64 (i64.wrap (r+i64.wrap (1*2^min bit.toNat i64.bits))),.int .i64 bit,.bool true,.int .i64 bit,.int .i64 (i64.wrap (bit-1)),.int .i64 r,.int .i64 bit,.int .i64 (i64.wrap (1*2^min bit.toNat i64.bits)),.int .i64 (i64.wrap (r+i64.wrap (1*2^min bit.toNat i64.bits))),.int .i64 (i64.wrap (r+i64.wrap (1*2^min bit.toNat i64.bits))),.bool (decide (i64.wrap (r+i64.wrap (1*2^min bit.toNat i64.bits))≤3037000499)),.bool false,.tuple ⟨[]⟩,.tuple ⟨[]⟩,.tuple ⟨[]⟩,.tuple ⟨[]⟩,.tuple ⟨[]⟩,.bool false,d23,d24],[]):=by
    simp only [rroot.tree,hd1,hd2,hc',cond_true,cond_false]
   have hf:rroot.fin (k+1+1) [.int .i64 n,d1,z,.int .i64 r,.int .i64 bit,d5,d6,d7,d8,d9,d10,d11,d12,d13,d14,d15,d16,d17,d18,d19,d20,d21,d22,d23,d24]=rroot.fin (k+1) [.int .i64 n,d1,z,.int .i64 r,.int .i64 (i64.wrap (bit-1)),.int .i64 (i64.wrap (r+i64.wrap (1*2^min bit.toNat i64.bits))),.int .i64 bit,.bool true,.int .i64 bit,.int .i64 (i64.wrap (bit-1)),.int .i64 r,.int .i64 bit,.int .i64 (i64.wrap (1*2^min bit.toNat i64.bits)),.int .i64 (i64.wrap (r+i64.wrap (1*2^min bit.toNat i64.bits))),.int .i64 (i64.wrap (r+i64.wrap (1*2^min bit.toNat i64.bits))),.bool (decide (i64.wrap (r+i64.wrap (1*2^min bit.toNat i64.bits))≤3037000499)),.bool false,.tuple ⟨[]⟩,.tuple ⟨[]⟩,.tuple ⟨[]⟩,.tuple ⟨[]⟩,.tuple ⟨[]⟩,.bool false,d23,d24]:=by simp only [rroot.fin,ht]
   rw [hf,hrt]
   refine Lp.more ((rroot.round n r bit d1 z d5 d6 d7 d8 d9 d10 d11 d12 d13 d14 d15 d16 d17 d18 d19 d20 d21 d22 d23 d24 nx).trans ht) (fun h=>h.of fun v hv=>by
   simp only [List.mem_cons,List.not_mem_nil,or_false] at hv
   rcases hv with rfl|rfl|rfl|rfl|rfl|rfl|rfl|rfl|rfl|rfl|rfl|rfl|rfl|rfl|rfl|rfl|rfl|rfl|rfl|rfl|rfl|rfl|rfl|rfl|rfl<;>first|exact .inl (clo_spec 8 _ rfl)|exact .inr (by simp)) ?_
   rw [hbit]
   exact rroot.lp k _ _ _ _ _ _ _ _ _ _ _ _ _ _ _ _ _ _ _ _ _ _ _ _ _ nx (by omega) rfl (by omega) (by omega)
def rroot.t:LSpec1
 |⟨[.int .i64 n,d1,z,.int .i64 r,.int .i64 bit,d5,d6,d7,d8,d9,d10,d11,d12,d13,d14,d15,d16,d17,d18,d19,d20,d21,d22,d23,d24],[],nx⟩=>some (decide (r=0)&&decide (bit=31),.exit 0,⟨[.int .i64 n,RX.nth (rroot.fin 33 [.int .i64 n,d1,z,.int .i64 r,.int .i64 bit,d5,d6,d7,d8,d9,d10,d11,d12,d13,d14,d15,d16,d17,d18,d19,d20,d21,d22,d23,d24]) 1,RX.nth (rroot.fin 33 [.int .i64 n,d1,z,.int .i64 r,.int .i64 bit,d5,d6,d7,d8,d9,d10,d11,d12,d13,d14,d15,d16,d17,d18,d19,d20,d21,d22,d23,d24]) 2,.int .i64 (rroot.rt 32 n 0),RX.nth (rroot.fin 33 [.int .i64 n,d1,z,.int .i64 r,.int .i64 bit,d5,d6,d7,d8,d9,d10,d11,d12,d13,d14,d15,d16,d17,d18,d19,d20,d21,d22,d23,d24]) 4,RX.nth (rroot.fin 33 [.int .i64 n,d1,z,.int .i64 r,.int .i64 bit,d5,d6,d7,d8,d9,d10,d11,d12,d13,d14,d15,d16,d17,d18,d19,d20,d21,d22,d23,d24]) 5,RX.nth (rroot.fin 33 [.int .i64 n,d1,z,.int .i64 r,.int .i64 bit,d5,d6,d7,d8,d9,d10,d11,d12,d13,d14,d15,d16,d17,d18,d19,d20,d21,d22,d23,d24]) 6,RX.nth (rroot.fin 33 [.int .i64 n,d1,z,.int .i64 r,.int .i64 bit,d5,d6,d7,d8,d9,d10,d11,d12,d13,d14,d15,d16,d17,d18,d19,d20,d21,d22,d23,d24]) 7,RX.nth (rroot.fin 33 [.int .i64 n,d1,z,.int .i64 r,.int .i64 bit,d5,d6,d7,d8,d9,d10,d11,d12,d13,d14,d15,d16,d17,d18,d19,d20,d21,d22,d23,d24]) 8,RX.nth (rroot.fin 33 [.int .i64 n,d1,z,.int .i64 r,.int .i64 bit,d5,d6,d7,d8,d9,d10,d11,d12,d13,d14,d15,d16,d17,d18,d19,d20,d21,d22,d23,d24]) 9,RX.nth (rroot.fin 33 [.int .i64 n,d1,z,.int .i64 r,.int .i64 bit,d5,d6,d7,d8,d9,d10,d11,d12,d13,d14,d15,d16,d17,d18,d19,d20,d21,d22,d23,d24]) 10,RX.nth (rroot.fin 33 [.int .i64 n,d1,z,.int .i64 r,.int .i64 bit,d5,d6,d7,d8,d9,d10,d11,d12,d13,d14,d15,d16,d17,d18,d19,d20,d21,d22,d23,d24]) 11,RX.nth (rroot.fin 33 [.int .i64 n,d1,z,.int .i64 r,.int .i64 bit,d5,d6,d7,d8,d9,d10,d11,d12,d13,d14,d15,d16,d17,d18,d19,d20,d21,d22,d23,d24]) 12,RX.nth (rroot.fin 33 [.int .i64 n,d1,z,.int .i64 r,.int .i64 bit,d5,d6,d7,d8,d9,d10,d11,d12,d13,d14,d15,d16,d17,d18,d19,d20,d21,d22,d23,d24]) 13,RX.nth (rroot.fin 33 [.int .i64 n,d1,z,.int .i64 r,.int .i64 bit,d5,d6,d7,d8,d9,d10,d11,d12,d13,d14,d15,d16,d17,d18,d19,d20,d21,d22,d23,d24]) 14,RX.nth (rroot.fin 33 [.int .i64 n,d1,z,.int .i64 r,.int .i64 bit,d5,d6,d7,d8,d9,d10,d11,d12,d13,d14,d15,d16,d17,d18,d19,d20,d21,d22,d23,d24]) 15,RX.nth (rroot.fin 33 [.int .i64 n,d1,z,.int .i64 r,.int .i64 bit,d5,d6,d7,d8,d9,d10,d11,d12,d13,d14,d15,d16,d17,d18,d19,d20,d21,d22,d23,d24]) 16,RX.nth (rroot.fin 33 [.int .i64 n,d1,z,.int .i64 r,.int .i64 bit,d5,d6,d7,d8,d9,d10,d11,d12,d13,d14,d15,d16,d17,d18,d19,d20,d21,d22,d23,d24]) 17,RX.nth (rroot.fin 33 [.int .i64 n,d1,z,.int .i64 r,.int .i64 bit,d5,d6,d7,d8,d9,d10,d11,d12,d13,d14,d15,d16,d17,d18,d19,d20,d21,d22,d23,d24]) 18,RX.nth (rroot.fin 33 [.int .i64 n,d1,z,.int .i64 r,.int .i64 bit,d5,d6,d7,d8,d9,d10,d11,d12,d13,d14,d15,d16,d17,d18,d19,d20,d21,d22,d23,d24]) 19,RX.nth (rroot.fin 33 [.int .i64 n,d1,z,.int .i64 r,.int .i64 bit,d5,d6,d7,d8,d9,d10,d11,d12,d13,d14,d15,d16,d17,d18,d19,d20,d21,d22,d23,d24]) 20,RX.nth (rroot.fin 33 [.int .i64 n,d1,z,.int .i64 r,.int .i64 bit,d5,d6,d7,d8,d9,d10,d11,d12,d13,d14,d15,d16,d17,d18,d19,d20,d21,d22,d23,d24]) 21,RX.nth (rroot.fin 33 [.int .i64 n,d1,z,.int .i64 r,.int .i64 bit,d5,d6,d7,d8,d9,d10,d11,d12,d13,d14,d15,d16,d17,d18,d19,d20,d21,d22,d23,d24]) 22,RX.nth (rroot.fin 33 [.int .i64 n,d1,z,.int .i64 r,.int .i64 bit,d5,d6,d7,d8,d9,d10,d11,d12,d13,d14,d15,d16,d17,d18,d19,d20,d21,d22,d23,d24]) 23,RX.nth (rroot.fin 33 [.int .i64 n,d1,z,.int .i64 r,.int .i64 bit,d5,d6,d7,d8,d9,d10,d11,d12,d13,d14,d15,d16,d17,d18,d19,d20,d21,d22,d23,d24]) 24],[],nx⟩)
 |_=>none
theorem rroot.lok:LOK Tryz.prog (Ay Tryz.f181 0) (one1 rroot.t):=by
 refine Qk (E:=⟨[],[],[]⟩) (L:=[]) (f:=3) ⟨Ac,Aq,Aj,Ap⟩ Bs fun S x S' h=> ?_
 unfold rroot.t at h
 split at h
 ·simp only [zS,zP,zB,zD] at h
  obtain ⟨⟨rfl,rfl⟩,rfl,rfl⟩:=h
  exact rroot.lp 32 _ _ _ _ _ _ _ _ _ _ _ _ _ _ _ _ _ _ _ _ _ _ _ _ _ _ (by omega) (by decide) (by omega) (by decide)
 ·cases h
def FB.sp:HSpec
 |[.int .i64 n],[]=>some (true,.int .i64 (rroot.rt 32 n 0),[])
 |_,_=>none
theorem rroot.run (n:Int):xfn Tryz.prog ⟨[],[],[]⟩ [(0,one1 rroot.t)] 10 Tryz.f181 [.int .i64 n] []=some (.int .i64 (rroot.rt 32 n 0),[]):=by kernel_rfl
theorem FB.ok:SOK Tryz.prog 181 FB.sp:=by
 refine Dl (E:=⟨[],[],[]⟩) (L:=[(0,one1 rroot.t)]) ⟨Ac,Aq,Aj,Ap⟩ 10 Tryz.func181 (by decide) rfl (F2 rfl rfl rroot.lok) fun vs bl v bl' h=> ?_
 unfold FB.sp at h
 split at h
 ·simp only [zS,zP,true_and] at h
  obtain ⟨rfl,rfl⟩:=h
  exact ⟨rroot.run _,by simp [okV,Nat.blt],clo_spec 8 _ rfl,Bg rfl⟩
 ·cases h
end Go.Proofs.YtpejalpgficopaaGreatDoor.G
end
section
namespace RX
open Go Go.RowKit
def HE:Nat→Value→List Nat
 |0,_=>[]
 | n+1,v=>
  match v with
  | .pointer (some ⟨b,_,none⟩)=>[b]
  | .slice (some ⟨b,_,none⟩) _ _=>[b]
  | .agg ⟨cs⟩=>cs.foldr (fun c l=>HE n c++l) []
  | .tuple ⟨cs⟩=>cs.foldr (fun c l=>HE n c++l) []
  | .func _ ⟨f⟩ ⟨c⟩=>f.foldr (fun c l=>HE n c++l) (c.foldr (fun c l=>HE n c++l) [])
  | .iface _ v=>HE n v
  |_=>[]
def HU (m:Nat):List Nat→List Nat
 |[]=>[]
 |x::r=>bif Nat.ble m x then x::HU m r else HU m r
theorem GL {m x:Nat} :∀ {l:List Nat},x∈HU m l→m≤x∧x∈l
 |[],h=>by simp [HU] at h
 | y ::r,h=>by
  simp only [HU] at h
  cases hb:Nat.ble m y with
  | true=>
   rw [hb] at h
   simp only [cond_true,List.mem_cons] at h
   rcases h with rfl|h
   ·exact ⟨zL hb,by simp⟩
   ·exact ⟨(GL h).1,by simp [(GL h).2]⟩
  | false=>
   rw [hb] at h
   exact ⟨(GL h).1,by simp [(GL h).2]⟩
theorem Hi {m:Nat} :∀ {l:List Nat},l.Nodup→(HU m l).Nodup
 |[],_=>by simp [HU]
 | y::r,h=>by
  simp only [List.nodup_cons] at h
  simp only [HU]
  cases hb:Nat.ble m y with
  |true=>simp only [cond_true,List.nodup_cons]; exact ⟨fun hm=>h.1 (GL hm).2,Hi h.2⟩
  |false=>exact Hi h.2
def sg (m:Nat) (rn:List Nat) (i:Nat):Nat:=bif Nat.blt i m then i else m+idx i rn
def okM (m:Nat) (rn:List Nat) (i:Nat):Bool:=Nat.blt i m||memN i rn
theorem rho_sg {m:Nat} {rn:List Nat} {i:Nat} (h:okM m rn i=true):rho m rn (sg m rn i)=i:=by
 unfold okM at h
 unfold sg
 cases hb:Nat.blt i m with
 | true=>
  have:i<m:=by simpa [Nat.blt_eq] using hb
  simp [rho,this]
 | false=>
  rw [hb] at h
  simp only [Bool.false_or] at h
  have:=KO (F5.1 h)
  simp only [cond_false,rho]
  rw [if_neg (by omega),List.getD_eq_getElem?_getD,show m+idx i rn-m=idx i rn from by omega,this]
  rfl
def okW (p:Nat→Bool):Nat→Value→Bool
 |0,_=>false
 | n+1,v=>
  match v with
  | .bool _| .int _ _| .float _ _| .complex _ _ _| .string _| .nilFunc| .nilIface=>true
  | .pointer none=>true
  | .pointer (some ⟨b,_,none⟩)=>p b
  | .slice none _ _=>true
  | .slice (some ⟨b,_,none⟩) _ _=>p b
  | .agg ⟨cs⟩=>cs.all (okW p n)
  | .tuple ⟨cs⟩=>cs.all (okW p n)
  | .func _ ⟨f⟩ ⟨c⟩=>f.all (okW p n)&&c.all (okW p n)
  | .iface _ v=>okW p n v
  |_=>false
theorem Qb {p:Nat→Bool} {g h k:Nat→Nat} (e:∀i,p i=true→g (h i)=k i):∀(n:Nat) (v:Value),okW p n v=true→ren g (ren h v)=ren k v:=by
 intro n
 induction n with
 |zero=>intro v hv; simp [okW] at hv
 | succ n ih=>
  have hl:∀l:List Value,l.all (okW p n)=true→(l.map (ren h)).map (ren g)=l.map (ren k):=fun l hl=>by
   rw [List.all_eq_true] at hl
   rw [List.map_map]
   exact List.map_congr_left fun v hv=>ih v (hl v hv)
  intro v hv
  unfold okW at hv
  split at hv
  all_goals try simp only [ren_bool,Ix,ren_string,Jy,Iw,Ko,HD]
  ·simp [ren]
  ·simp [ren]
  ·simp [e _ hv]
  ·simp [e _ hv]
  ·rw [ren_agg,ren_agg,ren_agg,hl _ hv]
  ·rw [FU,FU,FU,hl _ hv]
  ·simp only [zB] at hv
   rw [Ff,Ff,Ff,hl _ hv.1,hl _ hv.2]
  ·rw [GK,GK,GK,ih _ hv]
  ·simp at hv
def self (P:Program) (E:Env) (L:List (Nat×LSpec)) (n:Nat) (fn:Func):HSpec:=fun vs bl=>
 bif vs.all (okV (fun m=>Nat.blt m bl.length) 8) then
  match Jn P E L (hs P E n).lf (hs P E n).cf fn vs (enum bl 0) bl.length (fun v H _=>some (v,H)) with
  | some (v,H)=>
   (match Ij H 0 bl.length,getB H (HU bl.length (dedup (HE 8 v))) with
   | some l,some l2=>
    bif okW (okM bl.length (HU bl.length (dedup (HE 8 v)))) 8 v&&l.all Blk.clo&&l2.all Blk.clo then some (true,ren (sg bl.length (HU bl.length (dedup (HE 8 v)))) v,l++l2) else none
   |_,_=>none)
  |none=>none
 else none
theorem EW {P:Program} {E:Env} {L:List (Nat×LSpec)} (hE:EnvOk P E) (n:Nat) {f:FuncId} {fn:Func} (hf:P.funcs[f]? =some fn) (hn:fn.name≠ "runtime.NumGoroutine") (hb:fn.body.isSome=true) (hL:∀c,fn.body=some c→LsOk P L c):SOK P f (self P E L n fn):=by
 refine ⟨⟨fn,hf,hn,hb⟩,fun vs bl v bl' hs hcl g w hmem hinj htab hnt=> ?_⟩
 unfold self at hs
 cases hargs0:vs.all (okV (fun m=>Nat.blt m bl.length) 8) with
 |false=>rw [hargs0] at hs; cases hs
 |true=>
 rw [hargs0] at hs
 simp only [cond_true] at hs
 rw [List.all_eq_true] at hargs0
 split at hs
 rotate_left
 ·cases hs
 rename_i v0 H0 hrun
 split at hs
 rotate_left
 ·cases hs
 rename_i l l2 hl hl2
 generalize hrn:HU bl.length (dedup (HE 8 v0))=rn at hs hl2
 have hnod:rn.Nodup:=hrn▸Hi (Gc _)
 have hbig:∀x∈rn,bl.length≤x:=fun x hx=>by subst hrn; exact (GL hx).1
 cases hck:okW (okM bl.length rn) 8 v0&&l.all Blk.clo&&l2.all Blk.clo with
 |false=>rw [hck] at hs; cases hs
 |true=>
 rw [hck] at hs
 simp only [cond_true,zS,zP,true_and] at hs
 obtain ⟨rfl,rfl⟩:=hs
 simp only [zB] at hck
 obtain ⟨⟨hok,hc1⟩,hc2⟩:=hck
 have hcb:∀b∈l++l2,∀c∈b.cells,Clo c:=fun b hb=>by
  rw [List.mem_append] at hb
  exact hb.elim (Bg hc1 b) (Bg hc2 b)
 have bnd:∀u∈vs,Bnd bl.length u:=fun u hu g g' e=>Ft (fun m hm=>e m (by simpa [Nat.blt_eq] using hm)) 8 u (hargs0 u hu)
 have lk:∀m b,look (enum bl 0) m=some b→bl[m]? =some b:=fun m b h=>by
  rw [IB] at h
  simpa using h
 have hr:HRel w (fun k=>∃i,i<bl.length∧k=g i) g (enum bl 0) bl.length w:=by
  refine ⟨fun m b hm=> ?_,fun m b hm=> ?_,fun m b hm=> ?_,fun m k b c hm hk e=> ?_,fun m b hm=> ?_,Keep.refl w _,htab,fun m b hm=>hnt m (List.getElem?_eq_some_iff.1 (lk m b hm)).1⟩
  ·exact (List.getElem?_eq_some_iff.1 (lk m b hm)).1
  ·exact fun c hc=>(hcl b (List.mem_of_getElem? (lk m b hm)) c hc).bnd _
  ·rw [hmem m b (lk m b hm),map_clo (hcl b (List.mem_of_getElem? (lk m b hm)))]
  ·exact hinj m k (List.getElem?_eq_some_iff.1 (lk m b hm)).1 (List.getElem?_eq_some_iff.1 (lk k c hk)).1 e
  ·exact .inr ⟨m,(List.getElem?_eq_some_iff.1 (lk m b hm)).1,rfl⟩
 refine (GG (N:=fun _=>True) hE (Hj hE n) (Hk hE n) hf hL trivial hrun hr bnd).mono fun e w' ⟨v',g',H',nx',he,hk,hag,hle,hr',hbv⟩=> ?_
 simp only [zS,zP] at hk
 obtain ⟨rfl,rfl⟩:=hk
 obtain ⟨h1,h2⟩:=HJ hl
 obtain ⟨h3,h4⟩:=Hm hl2
 have hlook:∀i,bl.length≤i→i<(l++l2).length→∃x b,rn[i-bl.length]? =some x∧l2[i-bl.length]? =some b∧look H' x=some b∧rho bl.length rn i=x:=fun i hi hi2=>by
  have hi3:i-bl.length<l2.length:=by simp only [List.length_append] at hi2; omega
  obtain ⟨x,hx1,hx2⟩:=h4 _ _ (List.getElem?_eq_getElem hi3)
  refine ⟨x,_,hx1,List.getElem?_eq_getElem hi3,hx2,?_⟩
  unfold rho
  rw [if_neg (by omega),List.getD_eq_getElem?_getD,hx1]
  rfl
 refine ⟨fun i=>g' (rho bl.length rn i),fun i hi=> ?_,?_,fun i b hi=> ?_,fun i hi hi2=> ?_,fun i j hi hi2 hj hj2 e=> ?_,hr'.keep⟩
 ·show g' (rho bl.length rn i)=g i
  unfold rho
  rw [if_pos hi,hag i hi]
 ·rw [he,Qb (g:=fun i=>g' (rho bl.length rn i)) (h:=sg bl.length rn) (k:=g') (fun i hi=>by show g' (rho bl.length rn (sg bl.length rn i))=g' i; rw [rho_sg hi]) 8 v' hok]
 ·have hb0:=hcb b (List.mem_of_getElem? hi)
  show w'.heap[g' (rho bl.length rn i)]? =_
  by_cases hlt:i<bl.length
  ·rw [List.getElem?_append_left (by omega)] at hi
   have:=hr'.mem i b (by have:=h2 i b hi; rwa [Nat.zero_add] at this)
   unfold rho
   rw [if_pos hlt,this,map_clo hb0]
  ·obtain ⟨x,b',hx1,hx2,hx3,hx4⟩:=hlook i (by omega) (List.getElem?_eq_some_iff.1 hi).1
   rw [List.getElem?_append_right (by omega),h1,hx2] at hi
   injection hi with hi
   subst hi
   rw [hx4,hr'.mem x _ hx3,map_clo hb0]
 ·obtain ⟨x,b',hx1,hx2,hx3,hx4⟩:=hlook i hi hi2
  show w.heap.size≤g' (rho bl.length rn i)
  rw [hx4]
  rcases hr'.own x b' hx3 with ho|⟨j,hj,ho⟩
  ·exact ho
  ·exfalso
   have hlj:∃b,look H' j=some b:=⟨l[j]'(by omega),by have:=h2 j _ (List.getElem?_eq_getElem (by omega)); rwa [Nat.zero_add] at this⟩
   obtain ⟨b2,hb2⟩:=hlj
   have:=hr'.inj x j b' b2 hx3 hb2 (by rw [ho,hag j hj])
   have:=hbig x (List.mem_of_getElem? hx1)
   omega
 ·obtain ⟨x,b1,hx1,hx2,hx3,hx4⟩:=hlook i hi hi2
  obtain ⟨y,b2,hy1,hy2,hy3,hy4⟩:=hlook j hj hj2
  simp only [hx4,hy4] at e
  have:=hr'.inj x y b1 b2 hx3 hy3 e
  subst this
  obtain ⟨p1,q1⟩:=List.getElem?_eq_some_iff.1 hx1
  obtain ⟨p2,q2⟩:=List.getElem?_eq_some_iff.1 hy1
  have:=Gx hnod p1 p2 (q1.trans q2.symm)
  omega
end RX
end
section
namespace Go.Proofs.YtpejalpgficopaaGreatDoor.G
open Go Go.Proofs Go.RowKit RX
def By.sp (f:Bool→ByteArray→Bool→ByteArray→(Bool×ByteArray)) (p:Bool→ByteArray→Bool→ByteArray→Bool):HSpec
 |[.agg ⟨[.bool A7,.string AA]⟩,.agg ⟨[.bool AC,.string AB]⟩],[]=>some (p A7 AA AC AB,.agg ⟨[.bool (f A7 AA AC AB).1,.string (f A7 AA AC AB).2]⟩,[])
 |_,_=>none
def Dt.sp (f:Bool→ByteArray→Bool→ByteArray→(Bool×ByteArray)) (p:Bool→ByteArray→Bool→ByteArray→Bool):HSpec
 |[.agg ⟨[.bool A7,.string AA]⟩,.agg ⟨[.bool AC,.string AB]⟩],[]=>some (p A7 AA AC AB,.agg ⟨[.bool (f A7 AA AC AB).1,.string (f A7 AA AC AB).2]⟩,[])
 |_,_=>none
def EN.sp (f:Bool→ByteArray→Bool→ByteArray→(Bool×ByteArray)) (p:Bool→ByteArray→Bool→ByteArray→Bool):HSpec
 |[.agg ⟨[.bool A7,.string AA]⟩,.agg ⟨[.bool AC,.string AB]⟩],[]=>some (p A7 AA AC AB,.agg ⟨[.bool (f A7 AA AC AB).1,.string (f A7 AA AC AB).2]⟩,[])
 |_,_=>none
def Ct.sp (f:Int→(Bool×ByteArray)) (p:Int→Bool):HSpec
 |[.int .i64 a0],[]=>some (p a0,.agg ⟨[.bool (f a0).1,.string (f a0).2]⟩,[])
 |_,_=>none
def E1.sp (f:Bool→ByteArray→Bool→ByteArray→(Bool×ByteArray×Bool×ByteArray×Int)) (p:Bool→ByteArray→Bool→ByteArray→Bool):HSpec
 |[.agg ⟨[.bool A7,.string AA]⟩,.agg ⟨[.bool AC,.string AB]⟩],[]=>some (p A7 AA AC AB,.tuple ⟨[.agg ⟨[.bool (f A7 AA AC AB).1,.string (f A7 AA AC AB).2.1]⟩,.agg ⟨[.bool (f A7 AA AC AB).2.2.1,.string (f A7 AA AC AB).2.2.2.1]⟩,.int .i64 (f A7 AA AC AB).2.2.2.2]⟩,[])
 |_,_=>none
def EO.sp (f:Bool→ByteArray→Bool→ByteArray→(Bool×ByteArray)) (p:Bool→ByteArray→Bool→ByteArray→Bool):HSpec
 |[.agg ⟨[.bool A7,.string AA]⟩,.agg ⟨[.bool AC,.string AB]⟩],[]=>some (p A7 AA AC AB,.agg ⟨[.bool (f A7 AA AC AB).1,.string (f A7 AA AC AB).2]⟩,[])
 |_,_=>none
def EP.sp (f:Bool→ByteArray→Bool→ByteArray→(Int)) (p:Bool→ByteArray→Bool→ByteArray→Bool):HSpec
 |[.agg ⟨[.bool A7,.string AA]⟩,.agg ⟨[.bool AC,.string AB]⟩],[]=>some (p A7 AA AC AB,.int .i64 (f A7 AA AC AB),[])
 |_,_=>none
def EZ.sp (f:Bool→ByteArray→(Bool)):HSpec
 |[.agg ⟨[.bool A7,.string AA]⟩],[]=>some (true,.bool (f A7 AA),[])
 |_,_=>none
def E4.sp (f:Bool→ByteArray→(Int)):HSpec
 |[.agg ⟨[.bool A7,.string AA]⟩],[]=>some (true,.int .i64 (f A7 AA),[])
 |_,_=>none
def EA.sp (f:Bool→ByteArray→(Bool×ByteArray)):HSpec
 |[.agg ⟨[.bool A7,.string AA]⟩],[]=>some (true,.agg ⟨[.bool (f A7 AA).1,.string (f A7 AA).2]⟩,[])
 |_,_=>none
def Bm.sp (f:TF5 (Bool×ByteArray)) (p:TF5 Bool):HSpec
 |[.agg ⟨[.bool A7,.string AA,.bool AG,.string AF,.bool AE,.string AD,.bool AI,.string AH]⟩,.agg ⟨[.bool AC,.string AB]⟩],[]=>some (p A7 AA AG AF AE AD AI AH AC AB,.agg ⟨[.bool (f A7 AA AG AF AE AD AI AH AC AB).1,.string (f A7 AA AG AF AE AD AI AH AC AB).2]⟩,[])
 |_,_=>none
def Cl.sp (f:Bool→ByteArray→Bool→ByteArray→(Bool×ByteArray)) (p:Bool→ByteArray→Bool→ByteArray→Bool):HSpec
 |[.agg ⟨[.bool A7,.string AA]⟩,.agg ⟨[.bool AC,.string AB]⟩],[]=>some (p A7 AA AC AB,.agg ⟨[.bool (f A7 AA AC AB).1,.string (f A7 AA AC AB).2]⟩,[])
 |_,_=>none
def Az.sp (f:TF5 (TY5)) (p:TF5 Bool):HSpec
 |[.agg ⟨[.bool A7,.string AA,.bool AG,.string AF,.bool AE,.string AD,.bool AI,.string AH]⟩,.agg ⟨[.bool AC,.string AB]⟩],[]=>some (p A7 AA AG AF AE AD AI AH AC AB,.agg ⟨[.bool (f A7 AA AG AF AE AD AI AH AC AB).1,.string (f A7 AA AG AF AE AD AI AH AC AB).2.1,.bool (f A7 AA AG AF AE AD AI AH AC AB).2.2.1,.string (f A7 AA AG AF AE AD AI AH AC AB).2.2.2.1,.bool (f A7 AA AG AF AE AD AI AH AC AB).2.2.2.2.1,.string (f A7 AA AG AF AE AD AI AH AC AB).2.2.2.2.2.1,.bool (f A7 AA AG AF AE AD AI AH AC AB).2.2.2.2.2.2.1,.string (f A7 AA AG AF AE AD AI AH AC AB).2.2.2.2.2.2.2.1,.bool (f A7 AA AG AF AE AD AI AH AC AB).2.2.2.2.2.2.2.2.1,.string (f A7 AA AG AF AE AD AI AH AC AB).2.2.2.2.2.2.2.2.2]⟩,[])
 |_,_=>none
def Al.sp (f:TF5 (Bool)) (p:TF5 Bool):HSpec
 |[.agg ⟨[.bool A7,.string AA,.bool AG,.string AF,.bool AE,.string AD,.bool AI,.string AH,.bool AK,.string AJ]⟩],[]=>some (p A7 AA AG AF AE AD AI AH AK AJ,.bool (f A7 AA AG AF AE AD AI AH AK AJ),[])
 |_,_=>none
def Cd.sp (f:Int→(TY5)) (p:Int→Bool):HSpec
 |[.int .i64 a0],[]=>some (p a0,.agg ⟨[.bool (f a0).1,.string (f a0).2.1,.bool (f a0).2.2.1,.string (f a0).2.2.2.1,.bool (f a0).2.2.2.2.1,.string (f a0).2.2.2.2.2.1,.bool (f a0).2.2.2.2.2.2.1,.string (f a0).2.2.2.2.2.2.2.1,.bool (f a0).2.2.2.2.2.2.2.2.1,.string (f a0).2.2.2.2.2.2.2.2.2]⟩,[])
 |_,_=>none
def Dm.sp (f:Int→Int→Int→(Int)):HSpec
 |[.int .i64 a0,.int .i64 a1,.int .i64 a2],[]=>some (true,.int .i64 (f a0 a1 a2),[])
 |_,_=>none
def Bh.sp (f:Int→Bool→ByteArray→Bool→ByteArray→(Bool×ByteArray)) (p:Int→Bool→ByteArray→Bool→ByteArray→Bool):HSpec
 |[.int .i64 a0,.agg ⟨[.bool AC,.string AB]⟩,.agg ⟨[.bool AV,.string AU]⟩],[]=>some (p a0 AC AB AV AU,.agg ⟨[.bool (f a0 AC AB AV AU).1,.string (f a0 AC AB AV AU).2]⟩,[])
 |_,_=>none
def Ch.sp (f:Bool→ByteArray→Bool→ByteArray→(Int)) (p:Bool→ByteArray→Bool→ByteArray→Bool):HSpec
 |[.agg ⟨[.bool A7,.string AA]⟩,.agg ⟨[.bool AC,.string AB]⟩],[]=>some (p A7 AA AC AB,.int .i64 (f A7 AA AC AB),[])
 |_,_=>none
def Bz.sp (f:TF5 (Int)) (p:TF5 Bool):HSpec
 |[.agg ⟨[.bool A7,.string AA,.bool AG,.string AF,.bool AE,.string AD,.bool AI,.string AH,.bool AK,.string AJ]⟩],[]=>some (p A7 AA AG AF AE AD AI AH AK AJ,.int .i64 (f A7 AA AG AF AE AD AI AH AK AJ),[])
 |_,_=>none
def DZ.sp (f:TF10 (TY5)) (p:TF10 Bool):HSpec
 |[.agg ⟨[.bool A7,.string AA,.bool AG,.string AF,.bool AE,.string AD,.bool AI,.string AH,.bool AK,.string AJ]⟩,.agg ⟨[.bool AC,.string AB,.bool AM,.string AL,.bool AQ,.string AP,.bool AS,.string AR,.bool AO,.string AN]⟩],[]=>some (p A7 AA AG AF AE AD AI AH AK AJ AC AB AM AL AQ AP AS AR AO AN,.agg ⟨[.bool (f A7 AA AG AF AE AD AI AH AK AJ AC AB AM AL AQ AP AS AR AO AN).1,.string (f A7 AA AG AF AE AD AI AH AK AJ AC AB AM AL AQ AP AS AR AO AN).2.1,.bool (f A7 AA AG AF AE AD AI AH AK AJ AC AB AM AL AQ AP AS AR AO AN).2.2.1,.string (f A7 AA AG AF AE AD AI AH AK AJ AC AB AM AL AQ AP AS AR AO AN).2.2.2.1,.bool (f A7 AA AG AF AE AD AI AH AK AJ AC AB AM AL AQ AP AS AR AO AN).2.2.2.2.1,.string (f A7 AA AG AF AE AD AI AH AK AJ AC AB AM AL AQ AP AS AR AO AN).2.2.2.2.2.1,.bool (f A7 AA AG AF AE AD AI AH AK AJ AC AB AM AL AQ AP AS AR AO AN).2.2.2.2.2.2.1,.string (f A7 AA AG AF AE AD AI AH AK AJ AC AB AM AL AQ AP AS AR AO AN).2.2.2.2.2.2.2.1,.bool (f A7 AA AG AF AE AD AI AH AK AJ AC AB AM AL AQ AP AS AR AO AN).2.2.2.2.2.2.2.2.1,.string (f A7 AA AG AF AE AD AI AH AK AJ AC AB AM AL AQ AP AS AR AO AN).2.2.2.2.2.2.2.2.2]⟩,[])
 |_,_=>none
def Dp.sp (f:TF5 (TY5)) (p:TF5 Bool):HSpec
 |[.agg ⟨[.bool A7,.string AA,.bool AG,.string AF,.bool AE,.string AD,.bool AI,.string AH,.bool AK,.string AJ]⟩],[]=>some (p A7 AA AG AF AE AD AI AH AK AJ,.agg ⟨[.bool (f A7 AA AG AF AE AD AI AH AK AJ).1,.string (f A7 AA AG AF AE AD AI AH AK AJ).2.1,.bool (f A7 AA AG AF AE AD AI AH AK AJ).2.2.1,.string (f A7 AA AG AF AE AD AI AH AK AJ).2.2.2.1,.bool (f A7 AA AG AF AE AD AI AH AK AJ).2.2.2.2.1,.string (f A7 AA AG AF AE AD AI AH AK AJ).2.2.2.2.2.1,.bool (f A7 AA AG AF AE AD AI AH AK AJ).2.2.2.2.2.2.1,.string (f A7 AA AG AF AE AD AI AH AK AJ).2.2.2.2.2.2.2.1,.bool (f A7 AA AG AF AE AD AI AH AK AJ).2.2.2.2.2.2.2.2.1,.string (f A7 AA AG AF AE AD AI AH AK AJ).2.2.2.2.2.2.2.2.2]⟩,[])
 |_,_=>none
def Dn.sp (f:TF10 (TY5)) (p:TF10 Bool):HSpec
 |[.agg ⟨[.bool A7,.string AA,.bool AG,.string AF,.bool AE,.string AD,.bool AI,.string AH,.bool AK,.string AJ]⟩,.agg ⟨[.bool AC,.string AB,.bool AM,.string AL,.bool AQ,.string AP,.bool AS,.string AR,.bool AO,.string AN]⟩],[]=>some (p A7 AA AG AF AE AD AI AH AK AJ AC AB AM AL AQ AP AS AR AO AN,.agg ⟨[.bool (f A7 AA AG AF AE AD AI AH AK AJ AC AB AM AL AQ AP AS AR AO AN).1,.string (f A7 AA AG AF AE AD AI AH AK AJ AC AB AM AL AQ AP AS AR AO AN).2.1,.bool (f A7 AA AG AF AE AD AI AH AK AJ AC AB AM AL AQ AP AS AR AO AN).2.2.1,.string (f A7 AA AG AF AE AD AI AH AK AJ AC AB AM AL AQ AP AS AR AO AN).2.2.2.1,.bool (f A7 AA AG AF AE AD AI AH AK AJ AC AB AM AL AQ AP AS AR AO AN).2.2.2.2.1,.string (f A7 AA AG AF AE AD AI AH AK AJ AC AB AM AL AQ AP AS AR AO AN).2.2.2.2.2.1,.bool (f A7 AA AG AF AE AD AI AH AK AJ AC AB AM AL AQ AP AS AR AO AN).2.2.2.2.2.2.1,.string (f A7 AA AG AF AE AD AI AH AK AJ AC AB AM AL AQ AP AS AR AO AN).2.2.2.2.2.2.2.1,.bool (f A7 AA AG AF AE AD AI AH AK AJ AC AB AM AL AQ AP AS AR AO AN).2.2.2.2.2.2.2.2.1,.string (f A7 AA AG AF AE AD AI AH AK AJ AC AB AM AL AQ AP AS AR AO AN).2.2.2.2.2.2.2.2.2]⟩,[])
 |_,_=>none
def Cp.sp (f:TF10 (Int)) (p:TF10 Bool):HSpec
 |[.agg ⟨[.bool A7,.string AA,.bool AG,.string AF,.bool AE,.string AD,.bool AI,.string AH,.bool AK,.string AJ]⟩,.agg ⟨[.bool AC,.string AB,.bool AM,.string AL,.bool AQ,.string AP,.bool AS,.string AR,.bool AO,.string AN]⟩],[]=>some (p A7 AA AG AF AE AD AI AH AK AJ AC AB AM AL AQ AP AS AR AO AN,.int .i64 (f A7 AA AG AF AE AD AI AH AK AJ AC AB AM AL AQ AP AS AR AO AN),[])
 |_,_=>none
def Bw.sp (f:TF10 (TY5)) (p:TF10 Bool):HSpec
 |[.agg ⟨[.bool A7,.string AA,.bool AG,.string AF,.bool AE,.string AD,.bool AI,.string AH,.bool AK,.string AJ]⟩,.agg ⟨[.bool AC,.string AB,.bool AM,.string AL,.bool AQ,.string AP,.bool AS,.string AR,.bool AO,.string AN]⟩],[]=>some (p A7 AA AG AF AE AD AI AH AK AJ AC AB AM AL AQ AP AS AR AO AN,.agg ⟨[.bool (f A7 AA AG AF AE AD AI AH AK AJ AC AB AM AL AQ AP AS AR AO AN).1,.string (f A7 AA AG AF AE AD AI AH AK AJ AC AB AM AL AQ AP AS AR AO AN).2.1,.bool (f A7 AA AG AF AE AD AI AH AK AJ AC AB AM AL AQ AP AS AR AO AN).2.2.1,.string (f A7 AA AG AF AE AD AI AH AK AJ AC AB AM AL AQ AP AS AR AO AN).2.2.2.1,.bool (f A7 AA AG AF AE AD AI AH AK AJ AC AB AM AL AQ AP AS AR AO AN).2.2.2.2.1,.string (f A7 AA AG AF AE AD AI AH AK AJ AC AB AM AL AQ AP AS AR AO AN).2.2.2.2.2.1,.bool (f A7 AA AG AF AE AD AI AH AK AJ AC AB AM AL AQ AP AS AR AO AN).2.2.2.2.2.2.1,.string (f A7 AA AG AF AE AD AI AH AK AJ AC AB AM AL AQ AP AS AR AO AN).2.2.2.2.2.2.2.1,.bool (f A7 AA AG AF AE AD AI AH AK AJ AC AB AM AL AQ AP AS AR AO AN).2.2.2.2.2.2.2.2.1,.string (f A7 AA AG AF AE AD AI AH AK AJ AC AB AM AL AQ AP AS AR AO AN).2.2.2.2.2.2.2.2.2]⟩,[])
 |_,_=>none
def Cz.sp (f:TF10 (TY5)) (p:TF10 Bool):HSpec
 |[.agg ⟨[.bool A7,.string AA,.bool AG,.string AF,.bool AE,.string AD,.bool AI,.string AH,.bool AK,.string AJ]⟩,.agg ⟨[.bool AC,.string AB,.bool AM,.string AL,.bool AQ,.string AP,.bool AS,.string AR,.bool AO,.string AN]⟩],[]=>some (p A7 AA AG AF AE AD AI AH AK AJ AC AB AM AL AQ AP AS AR AO AN,.agg ⟨[.bool (f A7 AA AG AF AE AD AI AH AK AJ AC AB AM AL AQ AP AS AR AO AN).1,.string (f A7 AA AG AF AE AD AI AH AK AJ AC AB AM AL AQ AP AS AR AO AN).2.1,.bool (f A7 AA AG AF AE AD AI AH AK AJ AC AB AM AL AQ AP AS AR AO AN).2.2.1,.string (f A7 AA AG AF AE AD AI AH AK AJ AC AB AM AL AQ AP AS AR AO AN).2.2.2.1,.bool (f A7 AA AG AF AE AD AI AH AK AJ AC AB AM AL AQ AP AS AR AO AN).2.2.2.2.1,.string (f A7 AA AG AF AE AD AI AH AK AJ AC AB AM AL AQ AP AS AR AO AN).2.2.2.2.2.1,.bool (f A7 AA AG AF AE AD AI AH AK AJ AC AB AM AL AQ AP AS AR AO AN).2.2.2.2.2.2.1,.string (f A7 AA AG AF AE AD AI AH AK AJ AC AB AM AL AQ AP AS AR AO AN).2.2.2.2.2.2.2.1,.bool (f A7 AA AG AF AE AD AI AH AK AJ AC AB AM AL AQ AP AS AR AO AN).2.2.2.2.2.2.2.2.1,.string (f A7 AA AG AF AE AD AI AH AK AJ AC AB AM AL AQ AP AS AR AO AN).2.2.2.2.2.2.2.2.2]⟩,[])
 |_,_=>none
def Db.sp (f:TF10 (Bool×ByteArray×Bool×ByteArray×Bool×ByteArray×Bool×ByteArray×Bool×ByteArray×Int)) (p:TF10 Bool):HSpec
 |[.agg ⟨[.bool A7,.string AA,.bool AG,.string AF,.bool AE,.string AD,.bool AI,.string AH,.bool AK,.string AJ]⟩,.agg ⟨[.bool AC,.string AB,.bool AM,.string AL,.bool AQ,.string AP,.bool AS,.string AR,.bool AO,.string AN]⟩],[]=>some (p A7 AA AG AF AE AD AI AH AK AJ AC AB AM AL AQ AP AS AR AO AN,.tuple ⟨[.agg ⟨[.bool (f A7 AA AG AF AE AD AI AH AK AJ AC AB AM AL AQ AP AS AR AO AN).1,.string (f A7 AA AG AF AE AD AI AH AK AJ AC AB AM AL AQ AP AS AR AO AN).2.1,.bool (f A7 AA AG AF AE AD AI AH AK AJ AC AB AM AL AQ AP AS AR AO AN).2.2.1,.string (f A7 AA AG AF AE AD AI AH AK AJ AC AB AM AL AQ AP AS AR AO AN).2.2.2.1,.bool (f A7 AA AG AF AE AD AI AH AK AJ AC AB AM AL AQ AP AS AR AO AN).2.2.2.2.1,.string (f A7 AA AG AF AE AD AI AH AK AJ AC AB AM AL AQ AP AS AR AO AN).2.2.2.2.2.1,.bool (f A7 AA AG AF AE AD AI AH AK AJ AC AB AM AL AQ AP AS AR AO AN).2.2.2.2.2.2.1,.string (f A7 AA AG AF AE AD AI AH AK AJ AC AB AM AL AQ AP AS AR AO AN).2.2.2.2.2.2.2.1,.bool (f A7 AA AG AF AE AD AI AH AK AJ AC AB AM AL AQ AP AS AR AO AN).2.2.2.2.2.2.2.2.1,.string (f A7 AA AG AF AE AD AI AH AK AJ AC AB AM AL AQ AP AS AR AO AN).2.2.2.2.2.2.2.2.2.1]⟩,.int .i64 (f A7 AA AG AF AE AD AI AH AK AJ AC AB AM AL AQ AP AS AR AO AN).2.2.2.2.2.2.2.2.2.2]⟩,[])
 |_,_=>none
def Be.sp (f:TF10 (Int×Int×Int)) (p:TF10 Bool):HSpec
 |[.agg ⟨[.bool A7,.string AA,.bool AG,.string AF,.bool AE,.string AD,.bool AI,.string AH,.bool AK,.string AJ]⟩,.agg ⟨[.bool AC,.string AB,.bool AM,.string AL,.bool AQ,.string AP,.bool AS,.string AR,.bool AO,.string AN]⟩],[]=>some (p A7 AA AG AF AE AD AI AH AK AJ AC AB AM AL AQ AP AS AR AO AN,.tuple ⟨[.agg ⟨[.int .i64 (f A7 AA AG AF AE AD AI AH AK AJ AC AB AM AL AQ AP AS AR AO AN).1,.int .i64 (f A7 AA AG AF AE AD AI AH AK AJ AC AB AM AL AQ AP AS AR AO AN).2.1]⟩,.int .i64 (f A7 AA AG AF AE AD AI AH AK AJ AC AB AM AL AQ AP AS AR AO AN).2.2]⟩,[])
 |_,_=>none
end Go.Proofs.YtpejalpgficopaaGreatDoor.G
end
section
namespace RX
open Go Go.RowKit
theorem ct {α:Type} {b:Bool} {x y:α} (h:b=true):(bif b then x else y)=x:=by rw [h]; rfl
theorem cf {α:Type} {b:Bool} {x y:α} (h:b=false):(bif b then x else y)=y:=by rw [h]; rfl
theorem bint {n:Nat} {k:IntKind} {i:Int} :Bnd n (.int k i):=fun g g' _=>by simp
theorem bslice {n b o l c:Nat} (h:b<n):Bnd n (.slice (some ⟨b,o,none⟩) l c):=fun g g' e=>by simp [e b h]
theorem bptr {n b o:Nat} (h:b<n):Bnd n (.pointer (some ⟨b,o,none⟩)):=fun g g' e=>by simp [e b h]
theorem bclo {n:Nat} {v:Value} (h:clo 8 v=true):Bnd n v:=(clo_spec 8 v h).bnd n
theorem bnth {n i:Nat} {S:St} {v:Value} (h:Small n S) (hv:nth S.tmps i=v):Bnd n v:=by
 subst hv
 exact P8 h.1 (Clo.undef.bnd n) i
def ieq (x y:Int):Bool:=decide (x=y)
theorem Gl {x y:Int} :ieq x y=true↔x=y:=by simp [ieq]
theorem bname {n m:Nat} {S:St} {b:Blk} (h:Small n S) (hb:look S.heap m=some b):m<n:=(h.2 m b hb).1
def gbuild (tm:List (Nat×Value)):Nat→Nat→List Value
 |_,0=>[]
 |i,k+1=>(match look tm i with|some v=>v|none=>GONE)::gbuild tm (i+1) k
theorem Ib (tm:List (Nat×Value)):∀(k i j:Nat),nth (gbuild tm i k) j=if j<k then (match look tm (i+j) with|some v=>v|none=>GONE) else undef
 |0,i,j=>by simp [gbuild,nth]
 |k+1,i,0=>by simp [gbuild,nth]
 | k+1,i,j+1=>by
  simp only [gbuild,nth]
  rw [Ib tm k (i+1) j,show i+1+j=i+(j+1) from by omega]
  by_cases h:j<k
  ·rw [if_pos h,if_pos (by omega)]
  ·rw [if_neg h,if_neg (by omega)]
theorem Gk (tm:List (Nat×Value)):∀(k i:Nat),(gbuild tm i k).length=k
 |0,i=>rfl
 |k+1,i=>by simp [gbuild,Gk tm k (i+1)]
theorem Ic {tm:List (Nat×Value)} {v:Value} :∀ {k i:Nat},v∈gbuild tm i k→v=GONE∨∃j,look tm j=some v
 |0,i,h=>by simp [gbuild] at h
 | k +1,i,h=>by
  simp only [gbuild,List.mem_cons] at h
  rcases h with h|h
  ·subst h
   cases hl:look tm i with
   |none=>exact .inl rfl
   |some v=>exact .inr ⟨i,hl⟩
  ·exact Ic h
inductive Each {α:Type} (p:α→Prop):List α→Prop
 |nil:Each p []
 |cons {x:α} {l:List α} :p x→Each p l→Each p (x::l)
theorem Each.mem {α:Type} {p:α→Prop} {l:List α} (h:Each p l):∀x∈l,p x:=by
 induction h with
 |nil=>intro x hx; cases hx
 | cons h _ ih=>
  intro x hx
  cases hx with
  |head=>exact h
  |tail _ hx=>exact ih x hx
theorem FW {T:List Value} {H:Heap} {n k:Nat} {tm:List (Nat×Value)} {H':Heap} (hl:T.length=k) (ht:Each (fun p:Nat×Value=>nth T p.1=p.2∧Bnd n p.2) tm) (hh:Each (fun q:Nat×Blk=>look H q.1=some q.2∧q.1<n∧q.2.clo=true) H'):Wk T H n ⟨gbuild tm 0 k,H',n⟩:=by
 refine ⟨rfl,by rw [Gk,hl],fun i hi=> ?_,fun m b hm=>(hh.mem _ (Eg hm)).1,⟨fun v hv=> ?_,fun m b hm=>⟨(hh.mem _ (Eg hm)).2.1,fun c hc=>(Blk.clo_spec (hh.mem _ (Eg hm)).2.2 c hc).bnd n⟩⟩⟩
 ·show nth (gbuild tm 0 k) i=nth T i
  have hi':EX (nth (gbuild tm 0 k) i)=false:=hi
  rw [Ib,Nat.zero_add] at hi' ⊢
  by_cases hk:i<k
  ·rw [if_pos hk] at hi' ⊢
   cases hlk:look tm i with
   |none=>rw [hlk] at hi'; simp [GONE,EX] at hi'
   |some v=>exact (ht.mem _ (Eg hlk)).1.symm
  ·rw [if_neg hk,Gj (by omega)]
 ·rcases Ic hv with rfl|⟨j,hj⟩
  ·exact bclo rfl
  ·exact (ht.mem _ (Eg hj)).2
section
variable {P:Program} {N:Nat→Prop} {E:Env} {L:List (Nat×LSpec)} {f:Nat} {c:Code}
theorem Qj {t u:LSpec} (h1:LOKn P N c t) (h2:LOKn P N c u):LOKn P N c (fun S=>match t S with|some lt=>some lt|none=>u S):=fun S lt x S' ht hat=>by
 simp only at ht
 split at ht
 ·rename_i lt' h
  injection ht with ht
  subst ht
  exact h1 S _ x S' h hat
 ·exact h2 S lt x S' ht hat
end
theorem Er {P:Program} {N:Nat→Prop} {b c:Code} {i:Nat} {t:LSpec} {L:List (Nat×LSpec)} (hl:(F8 b).filter (fun p=>Nat.beq i p.1)=[(i,c)]) (h:LOKn P N c t) (r:LsOkn P N L b):LsOkn P N ((i,t)::L) b:=fun p hp t' ht=>by
 simp only [look] at ht
 cases he:Nat.beq i p.1 with
 |false=>rw [he] at ht; exact r p hp t' ht
 | true=>
  rw [he] at ht
  simp only [cond_true,zS] at ht
  subst ht
  have hm:p∈(F8 b).filter (fun p=>Nat.beq i p.1):=List.mem_filter.2 ⟨hp,he⟩
  rw [hl,List.mem_singleton] at hm
  subst hm
  exact h
def Jg (c:Code) (i:Nat):Code:=match look (F8 c) i with|some c=>c|none=> .skip
structure WkR (ρ:Nat→Nat) (T:List Value) (H:Heap) (n:Nat) (S:St):Prop where
 nx:S.nxt=n
 len:S.tmps.length=T.length
 tms:∀i,EX (nth S.tmps i)=false→EX (nth T i)=false∧∀g:Nat→Nat,ren g (nth T i)=ren (fun m=>g (ρ m)) (nth S.tmps i)
 hp:∀m b,look S.heap m=some b→look H (ρ m)=some b∧∀c∈b.cells,Clo c
 inj:∀m k b c,look S.heap m=some b→look S.heap k=some c→ρ m=ρ k→m=k
 sm:Small n S
theorem SRel.wkR {W0:World} {out:Nat→Prop} {g0:Nat→Nat} {n:Nat} {S S':St} {ρ:Nat→Nat} {a:Act} {w:World} (h:SRel W0 out g0 0 S a w) (hw:WkR ρ S.tmps S.heap n S'):SRel W0 out g0 0 S' a w:=by
 obtain ⟨g,_,_,tr,hr⟩:=h
 refine ⟨fun m=>g (ρ m),fun n hn=>absurd hn (Nat.not_lt_zero _),Nat.zero_le _,⟨by rw [tr.sz,hw.len],fun i hi=> ?_,tr.df,by rw [hw.nx]; exact hw.sm.1⟩,?_⟩
 ·obtain ⟨h1,h2⟩:=hw.tms i hi
  rw [tr.tm i h1,h2 g]
 ·rw [hw.nx]
  refine ⟨fun m b hm=>(hw.sm.2 m b hm).1,fun m b hm=>(hw.sm.2 m b hm).2,fun m b hm=> ?_,fun m k b c hm hk e=> ?_,fun m b hm=>hr.own _ b (hw.hp m b hm).1,hr.keep,hr.tabs,fun m b hm=>hr.ntab _ b (hw.hp m b hm).1⟩
  ·obtain ⟨h1,h2⟩:=hw.hp m b hm
   have:=hr.mem _ b h1
   rw [map_clo h2] at this
   rw [map_clo h2]
   exact this
  ·exact hw.inj m k b c hm hk (hr.inj _ _ b c (hw.hp m b hm).1 (hw.hp k c hk).1 e)
def mp (l:List (Nat×Nat)) (n:Nat):Nat:=match look l n with|some m=>m|none=>n
def nodB:List Nat→Bool
 |[]=>true
 |a::r=> !(memN a r)&&nodB r
theorem P9:∀ {l:List Nat},nodB l=true→l.Nodup
 |[],_=>List.nodup_nil
 | a::r,h=>by
  simp only [nodB,zB,Bool.not_eq_true'] at h
  refine List.nodup_cons.2 ⟨fun hm=> ?_,P9 h.2⟩
  rw [F5.2 hm] at h
  cases h.1
theorem wkR_of {ρ:Nat→Nat} {T:List Value} {H:Heap} {n k:Nat} {tm:List (Nat×Value)} {H':Heap} (hl:T.length=k) (ht:Each (fun p:Nat×Value=>(EX (nth T p.1)=false∧∀g:Nat→Nat,ren g (nth T p.1)=ren (fun m=>g (ρ m)) p.2)∧Bnd n p.2) tm) (hh:Each (fun q:Nat×Blk=>look H (ρ q.1)=some q.2∧q.1<n∧q.2.clo=true) H') (hi0:nodB (H'.map fun q=>ρ q.1)=true):WkR ρ T H n ⟨gbuild tm 0 k,H',n⟩:=by
 have hi:=P9 hi0
 refine ⟨rfl,by rw [Gk,hl],fun i hi=> ?_,fun m b hm=>⟨(hh.mem _ (Eg hm)).1,Blk.clo_spec (hh.mem _ (Eg hm)).2.2⟩,fun m k' b c hm hk e=> ?_,⟨fun v hv=> ?_,fun m b hm=>⟨(hh.mem _ (Eg hm)).2.1,fun c hc=>(Blk.clo_spec (hh.mem _ (Eg hm)).2.2 c hc).bnd n⟩⟩⟩
 ·show EX (nth T i)=false∧∀g:Nat→Nat,ren g (nth T i)=ren (fun m=>g (ρ m)) (nth (gbuild tm 0 k) i)
  have hi':EX (nth (gbuild tm 0 k) i)=false:=hi
  rw [Ib,Nat.zero_add] at hi' ⊢
  by_cases hk:i<k
  ·rw [if_pos hk] at hi' ⊢
   cases hlk:look tm i with
   |none=>rw [hlk] at hi'; simp [GONE,EX] at hi'
   |some v=>exact (ht.mem _ (Eg hlk)).1
  ·rw [if_neg hk] at hi' ⊢
   have hT:nth T i=undef:=Gj (by omega)
   rw [hT]
   exact ⟨hi',fun g=>rfl⟩
 ·have h1:=Eg hm
  have h2:=Eg hk
  obtain ⟨i,hi1,hi2⟩:=List.getElem_of_mem h1
  obtain ⟨j,hj1,hj2⟩:=List.getElem_of_mem h2
  have hij:i=j:=Gx hi (by simpa using hi1) (by simpa using hj1) (by simp only [List.getElem_map,hi2,hj2]; exact e)
  subst hij
  rw [hi2] at hj2
  injection hj2
 ·rcases Ic hv with rfl|⟨j,hj⟩
  ·exact bclo rfl
  ·exact (ht.mem _ (Eg hj)).2
inductive Lpe (P:Program) (c:Code):St→X→St→Prop
 |step {E:Env} {f:Nat} {S:St} {T:List Value} {H:Heap} {x:X} {S2 S':St} {ρ:Nat→Nat} :EnvOk P E→exec P E [] (hs P E f).lf (hs P E f).cf c S (fun x S=>some (x,S.tmps,S.heap))=some (.normal,T,H)→(Small S.nxt S→WkR ρ T H S.nxt S2)→Lpe P c S2 x S'→Lpe P c S x S'
 |stop {E:Env} {f:Nat} {S:St} {T:List Value} {H:Heap} {x:X} {S2:St} {ρ:Nat→Nat} :EnvOk P E→exec P E [] (hs P E f).lf (hs P E f).cf c S (fun x S=>some (x,S.tmps,S.heap))=some (x,T,H)→x≠ .normal→(Small S.nxt S→WkR ρ T H S.nxt S2)→Lpe P c S x S2
 |enter {S S2:St} {x:X} {S':St} :(Small S.nxt S→Wk S.tmps S.heap S.nxt S2)→Lpe P c S2 x S'→Lpe P c S x S'
def P0 (S:St):List Nat→List Value
 |[]=>[]
 |i::r=>nth S.tmps i::P0 S r
def P1 (S:St):List Nat→List (Option Blk)
 |[]=>[]
 |i::r=>look S.heap i::P1 S r
theorem NB (S:St):∀is,P0 S is=is.map (nth S.tmps)
 |[]=>rfl
 |i::r=>by simp [P0,NB S r]
theorem NC (S:St):∀is,P1 S is=is.map (look S.heap)
 |[]=>rfl
 |i::r=>by simp [P1,NC S r]
def pick (k:Nat) (is bs:List Nat) (x:X) (S:St):Option (X×List Value×List (Option Blk)):=bif Nat.beq S.tmps.length k then some (x,P0 S is,P1 S bs) else none
def lkT (S:St):List Nat→List Value
 |[]=>[]
 |i::r=>nth S.tmps i::lkT S r
def lkH (S:St):List Nat→List (Option Blk)
 |[]=>[]
 |i::r=>look S.heap i::lkH S r
theorem Ql (S:St):∀is,lkT S is=is.map (nth S.tmps)
 |[]=>rfl
 |i::r=>by simp [lkT,Ql S r]
theorem Qm (S:St):∀is,lkH S is=is.map (look S.heap)
 |[]=>rfl
 |i::r=>by simp [lkH,Qm S r]
def lk (is bs:List Nat) (x:X) (S:St):Option (X×List Value×List (Option Blk)):=some (x,lkT S is,lkH S bs)
theorem PC {is bs:List Nat} {x:X} {S:St} :lk is bs x S=some (x,is.map (nth S.tmps),bs.map (look S.heap)):=by rw [lk,Ql,Qm]
theorem Lt {k:Nat} {is bs:List Nat} {x y:X} {S:St} {vals:List Value} {blks:List (Option Blk)} (h:pick k is bs x S=some (y,vals,blks)):x=y∧S.tmps.length=k∧is.map (nth S.tmps)=vals∧bs.map (look S.heap)=blks:=by
 unfold pick at h
 cases hb:Nat.beq S.tmps.length k with
 |false=>rw [hb] at h; cases h
 | true=>
  rw [hb] at h
  simp only [cond_true,zS,zP,NB,NC] at h
  exact ⟨h.1,zE hb,h.2.1,h.2.2⟩
def Found (N:Nat→Prop) (n k:Nat) (is bs:List Nat) (vals:List Value) (blks:List (Option Blk)) (S2:St):Prop:=
 ∀ U:St,U.tmps.length=k→is.map (nth U.tmps)=vals→bs.map (look U.heap)=blks→
  ∀(W0:World) (out:Nat→Prop) (g0:Nat→Nat) (n0:Nat) (a:Act) (w:World),N n0→n0≤n→SRel W0 out g0 n0 U a w→SRel W0 out g0 n0 S2 a w
inductive Lq (P:Program) (N:Nat→Prop) (c:Code):St→X→St→Prop
 |step {E:Env} {L:List (Nat×LSpec)} {f:Nat} {S S2 S':St} {x:X} {is bs:List Nat} {k:Nat} {vals:List Value} {blks:List (Option Blk)} :EnvOk P E→LsOkn P N L c→
  exec P E L (hs P E f).lf (hs P E f).cf c S (pick k is bs)=some (.normal,vals,blks)→(Small S.nxt S→Found N S.nxt k is bs vals blks S2)→Lq P N c S2 x S'→Lq P N c S x S'
 |stop {E:Env} {L:List (Nat×LSpec)} {f:Nat} {S S2:St} {x:X} {is bs:List Nat} {k:Nat} {vals:List Value} {blks:List (Option Blk)} :EnvOk P E→LsOkn P N L c→
  exec P E L (hs P E f).lf (hs P E f).cf c S (pick k is bs)=some (x,vals,blks)→x≠ .normal→(Small S.nxt S→Found N S.nxt k is bs vals blks S2)→Lq P N c S x S2
 |enter {S S2 S':St} {x:X} :(Small S.nxt S→Wk S.tmps S.heap S.nxt S2)→Lq P N c S2 x S'→Lq P N c S x S'
theorem Pn {P:Program} {N:Nat→Prop} {c:Code} {S:St} {x:X} {S':St} (h:Lq P N c S x S')
  {W0:World} {out:Nat→Prop} {g0:Nat→Nat} {n0:Nat} (hN:N n0) {Q:Exit→Act→World→Prop} (hQ:∀a' w',SRel W0 out g0 n0 S' a' w'→Q x.to a' w'):
  ∃n,∀(a:Act) (w:World),SRel W0 out g0 n0 S a w→Code.rounds P c Q n a w:=by
 induction h with
 | @step E L f S S2 S' x is bs k vals blks hE hL he hs _ ih=>
  obtain ⟨n,hn⟩:=ih hQ
  refine ⟨n+1,fun a w hr=> ?_⟩
  rw [rounds_succ]
  obtain ⟨hn',hsm⟩:=hr.small
  refine FE hE (Hj hE f) (Hk hE f) c hL S _ _ he W0 out g0 n0 a w _ hN hr fun y U a' w' hy ht=> ?_
  obtain ⟨rfl,h1,h2,h3⟩:=Lt hy
  exact hn a' w' (hs hsm U h1 h2 h3 W0 out g0 n0 a' w' hN hn' ht)
 | @stop E L f S S2 x is bs k vals blks hE hL he hx hs=>
  refine ⟨1,fun a w hr=> ?_⟩
  rw [rounds_succ]
  obtain ⟨hn',hsm⟩:=hr.small
  refine FE hE (Hj hE f) (Hk hE f) c hL S _ _ he W0 out g0 n0 a w _ hN hr fun y U a' w' hy ht=> ?_
  obtain ⟨rfl,h1,h2,h3⟩:=Lt hy
  have:=hQ a' w' (hs hsm U h1 h2 h3 W0 out g0 n0 a' w' hN hn' ht)
  cases y with
  |normal=>exact absurd rfl hx
  |exit i=>exact this
  |ret=>exact this
 | @enter S S2 S' x hw _ ih=>
  obtain ⟨n,hn⟩:=ih hQ
  exact ⟨n,fun a w hr=>hn a w (hr.wk hr.small.1 (hw hr.small.2))⟩
theorem FS {P:Program} {N:Nat→Prop} {c:Code} {t:LSpec} (h:∀S lt x S',t S=some lt→lt.at=some (x,S')→Lq P N c S x S'):LOKn P N c t:=fun S lt x S' ht hat W0 out g0 n0 a w Q hN hr hQ=>by
 obtain ⟨n,hn⟩:=Pn (h S lt x S' ht hat) hN (Q:=Q) hQ
 exact wp_loop_rounds n (hn a w hr)
theorem L8 {T:List Value} :∀ {is:List Nat} {i:Nat} {v:Value},look (is.zip (is.map (nth T))) i=some v→nth T i=v
 |[],i,v,h=>by simp [look] at h
 | j ::r,i,v,h=>by
  simp only [List.map_cons,List.zip_cons_cons,look] at h
  cases hb:Nat.beq j i with
  | true=>
   rw [hb] at h
   simp only [cond_true,zS] at h
   rw [←zE hb]; exact h
  |false=>rw [hb] at h; exact L8 h
theorem Jh {H:Heap} :∀ {bs:List Nat} {m:Nat} {b:Option Blk},look (bs.zip (bs.map (look H))) m=some b→look H m=b
 |[],m,b,h=>by simp [look] at h
 | j ::r,m,b,h=>by
  simp only [List.map_cons,List.zip_cons_cons,look] at h
  cases hb:Nat.beq j m with
  | true=>
   rw [hb] at h
   simp only [cond_true,zS] at h
   rw [←zE hb]; exact h
  |false=>rw [hb] at h; exact Jh h
theorem q_of {N:Nat→Prop} {n k:Nat} {is bs:List Nat} {vals:List Value} {blks:List (Option Blk)} {tm:List (Nat×Value)} {hp:List (Nat×Blk)}
  (ht:Each (fun p:Nat×Value=>look (is.zip vals) p.1=some p.2∧Bnd n p.2) tm) (hh:Each (fun q:Nat×Blk=>look (bs.zip blks) q.1=some (some q.2)∧q.1<n∧q.2.clo=true) hp):
  Found N n k is bs vals blks ⟨gbuild tm 0 k,hp,n⟩:=fun U hk hi hb W0 out g0 n0 a w _ hn hr=>by
 subst hi hb
 refine hr.wk hn (FW hk ?_ ?_)
 ·have:∀ {l:List (Nat×Value)},Each (fun p:Nat×Value=>look (is.zip (is.map (nth U.tmps))) p.1=some p.2∧Bnd n p.2) l→Each (fun p:Nat×Value=>nth U.tmps p.1=p.2∧Bnd n p.2) l:=by
   intro l h
   induction h with
   |nil=>exact .nil
   |cons h _ ih=>exact .cons ⟨L8 h.1,h.2⟩ ih
  exact this ht
 ·have:∀ {l:List (Nat×Blk)},Each (fun q:Nat×Blk=>look (bs.zip (bs.map (look U.heap))) q.1=some (some q.2)∧q.1<n∧q.2.clo=true) l→Each (fun q:Nat×Blk=>look U.heap q.1=some q.2∧q.1<n∧q.2.clo=true) l:=by
   intro l h
   induction h with
   |nil=>exact .nil
   |cons h _ ih=>exact .cons ⟨Jh h.1,h.2⟩ ih
  exact this hh
theorem K0 {n k:Nat} {is bs:List Nat} {vals:List Value} {blks:List (Option Blk)} {tm:List (Nat×Value)} {hp:List (Nat×Blk)} {ρ:Nat→Nat}
  (ht:Each (fun p:Nat×Value=>(∃u,look (is.zip vals) p.1=some u∧EX u=false∧∀g:Nat→Nat,ren g u=ren (fun m=>g (ρ m)) p.2)∧Bnd n p.2) tm) (hh:Each (fun q:Nat×Blk=>look (bs.zip blks) (ρ q.1)=some (some q.2)∧q.1<n∧q.2.clo=true) hp) (hi0:nodB (hp.map fun q=>ρ q.1)=true):
  Found (fun n0=>n0=0) n k is bs vals blks ⟨gbuild tm 0 k,hp,n⟩:=fun U hk hi hb W0 out g0 n0 a w hn0 hn hr=>by
 subst hn0
 subst hi hb
 refine (show SRel W0 out g0 0 U a w from hr).wkR (ρ:=ρ) (n:=n) (wkR_of hk ?_ ?_ hi0)
 ·have:∀ {l:List (Nat×Value)},Each (fun p:Nat×Value=>(∃u,look (is.zip (is.map (nth U.tmps))) p.1=some u∧EX u=false∧∀g:Nat→Nat,ren g u=ren (fun m=>g (ρ m)) p.2)∧Bnd n p.2) l→Each (fun p:Nat×Value=>(EX (nth U.tmps p.1)=false∧∀g:Nat→Nat,ren g (nth U.tmps p.1)=ren (fun m=>g (ρ m)) p.2)∧Bnd n p.2) l:=by
   intro l h
   induction h with
   |nil=>exact .nil
   | cons h _ ih=>
    obtain ⟨⟨u,h1,h2,h3⟩,h4⟩:=h
    exact .cons ⟨by rw [L8 h1]; exact ⟨h2,h3⟩,h4⟩ ih
  exact this ht
 ·have:∀ {l:List (Nat×Blk)},Each (fun q:Nat×Blk=>look (bs.zip (bs.map (look U.heap))) (ρ q.1)=some (some q.2)∧q.1<n∧q.2.clo=true) l→Each (fun q:Nat×Blk=>look U.heap (ρ q.1)=some q.2∧q.1<n∧q.2.clo=true) l:=by
   intro l h
   induction h with
   |nil=>exact .nil
   |cons h _ ih=>exact .cons ⟨Jh h.1,h.2⟩ ih
  exact this hh
theorem ruS {l:List (Nat×Nat)} {p q o k c:Nat} (h:mp l p=q):EX (.slice (some ⟨q,o,none⟩) k c)=false∧∀g:Nat→Nat,ren g (.slice (some ⟨q,o,none⟩) k c)=ren (fun m=>g (mp l m)) (.slice (some ⟨p,o,none⟩) k c):=⟨rfl,fun g=>by rw [Fk,Fk,h]⟩
theorem ruP {l:List (Nat×Nat)} {p q o:Nat} (h:mp l p=q):EX (.pointer (some ⟨q,o,none⟩))=false∧∀g:Nat→Nat,ren g (.pointer (some ⟨q,o,none⟩))=ren (fun m=>g (mp l m)) (.pointer (some ⟨p,o,none⟩)):=⟨rfl,fun g=>by rw [Iv,Iv,h]⟩
def gcov (is:List Nat):Nat→List Value→Bool
 |_,[]=>true
 |i,v::r=>(EX v||memN i is)&&gcov is (i+1) r
theorem IE {is:List Nat} :∀ {T:List Value} {i j:Nat},gcov is i T=true→j<T.length→EX (nth T j)=false→memN (i+j) is=true
 |[],i,j,_,hj,_=>by simp at hj
 | v::r,i,0,h,_,hg=>by
  simp only [gcov,zB,Bool.or_eq_true] at h
  rcases h.1 with h|h
  ·rw [show nth (v::r) 0=v from rfl,h] at hg; cases hg
  ·exact h
 | v::r,i,j+1,h,hj,hg=>by
  simp only [gcov,zB] at h
  have:=IE (j:=j) h.2 (by simpa using hj) hg
  rwa [show i+1+j=i+(j+1) from by omega] at this
def covB (k:Nat) (is bs:List Nat) (n:Nat) (S2:St):Bool:=
 Nat.beq S2.nxt n&&Nat.beq S2.tmps.length k&&gcov is 0 S2.tmps&&S2.tmps.all (okV (fun m=>Nat.blt m n) 8)&&S2.heap.all (fun q=>memN q.1 bs&&Nat.blt q.1 n&&q.2.clo)
theorem Ie {α β:Type} {f g:α→β} {a:α} :∀ {l:List α},l.map f=l.map g→a∈l→f a=g a
 | x::l,h,hm=>by
  simp only [List.map_cons,List.cons.injEq] at h
  rcases List.mem_cons.1 hm with rfl|hm
  ·exact h.1
  ·exact Ie h.2 hm
theorem M3 {N:Nat→Prop} {n k:Nat} {is bs:List Nat} {S2:St} (hc:covB k is bs n S2=true):Found N n k is bs (is.map (nth S2.tmps)) (bs.map (look S2.heap)) S2:=fun U hk hi hb W0 out g0 n0 a w _ hn hr=>by
  simp only [covB,zB,List.all_eq_true] at hc
  obtain ⟨⟨⟨⟨c1,c2⟩,c3⟩,c4⟩,c5⟩:=hc
  have c1:=zE c1
  have c2:=zE c2
  refine hr.wk (n:=n) hn ⟨c1,by rw [c2,hk],fun i hg=> ?_,fun m b hm=> ?_,fun v hv=>fun g g' e=>Ft (fun m hm=>e m (by simpa [Nat.blt_eq] using hm)) 8 v (c4 v hv),fun m b hm=> ?_⟩
  · by_cases hlt:i<S2.tmps.length
    · have:=IE c3 hlt hg
      rw [Nat.zero_add] at this
      exact (Ie hi (F5.1 this)).symm
    · rw [Gj (by omega),Gj (by omega)]
  · have:=c5 _ (Eg hm)
    exact (Ie hb (F5.1 this.1.1)).trans hm
  · have:=c5 _ (Eg hm)
    exact ⟨by simpa [Nat.blt_eq] using this.1.2,fun c hc=>(Blk.clo_spec this.2 c hc).bnd n⟩
theorem Lq.to {P:Program} {N:Nat→Prop} {c:Code} {E:Env} {L:List (Nat×LSpec)} {f:Nat} {S S2 S':St} {x:X} {is bs:List Nat} {k:Nat} (hE:EnvOk P E) (hL:LsOkn P N L c)
  (he:exec P E L (hs P E f).lf (hs P E f).cf c S (pick k is bs)=lk is bs .normal S2) (hc:covB k is bs S.nxt S2=true) (h:Lq P N c S2 x S'):Lq P N c S x S':=by
 exact .step hE hL (he.trans PC) (fun _=>M3 hc) h
theorem Lq.end {P:Program} {N:Nat→Prop} {c:Code} {E:Env} {L:List (Nat×LSpec)} {f:Nat} {S S2:St} {x:X} {is bs:List Nat} {k:Nat} (hE:EnvOk P E) (hL:LsOkn P N L c)
  (he:exec P E L (hs P E f).lf (hs P E f).cf c S (pick k is bs)=lk is bs x S2) (hx:x≠ .normal) (hc:covB k is bs S.nxt S2=true):Lq P N c S x S2:=by
 exact .stop hE hL (he.trans PC) hx (fun _=>M3 hc)
def covK (k:Nat) (is bs ks:List Nat) (S2:St):Bool:=
 Nat.beq S2.tmps.length k&&gcov is 0 S2.tmps&&S2.tmps.all (okV (fun m=>memN m ks) 8)&&S2.heap.all (fun q=>memN q.1 bs&&memN q.1 ks&&q.2.clo)
theorem MV {H:Heap} {m:Nat} (h:m∈H.map fun q=>q.1):∃b,look H m=some b:=by
 induction H with
 |nil=>simp at h
 | cons q r ih=>
  obtain ⟨j,b⟩:=q
  unfold look
  cases hb:Nat.beq j m with
  |true=>exact ⟨b,rfl⟩
  | false=>
   rw [List.map_cons,List.mem_cons] at h
   rcases h with h|h
   ·have:Nat.beq j m=true:=by rw [h]; exact Nat.beq_refl j
    rw [this] at hb; cases hb
   ·exact ih h
theorem Qp {H:Heap} {n m:Nat} (hs:∀m b,look H m=some b→m<n∧∀c∈b.cells,Bnd n c) (hm:memN m (H.map fun q=>q.1)=true):m<n:=by
 have:=F5.1 hm
 obtain ⟨b,hb⟩:=MV (H:=H) this
 exact (hs m b hb).1
theorem LF {N:Nat→Prop} {k:Nat} {is bs:List Nat} {S S2:St} (hsm:Small S.nxt S) (hx:S2.nxt=S.nxt) (hc:covK k is bs (S.heap.map fun q=>q.1) S2=true):Found N S.nxt k is bs (is.map (nth S2.tmps)) (bs.map (look S2.heap)) S2:=fun U hk hi hb W0 out g0 n0 a w _ hn hr=>by
  simp only [covK,zB,List.all_eq_true] at hc
  obtain ⟨⟨⟨c2,c3⟩,c4⟩,c5⟩:=hc
  have c2:=zE c2
  refine hr.wk (n:=S.nxt) hn ⟨hx,by rw [c2,hk],fun i hg=> ?_,fun m b hm=> ?_,fun v hv=>fun g g' e=>Ft (fun m hm=>e m (Qp hsm.2 hm)) 8 v (c4 v hv),fun m b hm=> ?_⟩
  · by_cases hlt:i<S2.tmps.length
    · have:=IE c3 hlt hg
      rw [Nat.zero_add] at this
      exact (Ie hi (F5.1 this)).symm
    · rw [Gj (by omega),Gj (by omega)]
  · have:=c5 _ (Eg hm)
    exact (Ie hb (F5.1 this.1.1)).trans hm
  · have:=c5 _ (Eg hm)
    exact ⟨Qp hsm.2 this.1.2,fun c hc=>(Blk.clo_spec this.2 c hc).bnd _⟩
abbrev rd (P:Program) (E:Env) (L:List (Nat×LSpec)) (f:Nat) (c:Code) (S:St) (k:Nat) (is bs:List Nat):=exec P E L (hs P E f).lf (hs P E f).cf c S (pick k is bs)
theorem _root_.Eq.ct {α:Type} {r x y:α} {b:Bool} (e:r=bif b then x else y) (h:b=true):r=x:=by rw [e,h]; rfl
theorem _root_.Eq.cf {α:Type} {r x y:α} {b:Bool} (e:r=bif b then x else y) (h:b=false):r=y:=by rw [e,h]; rfl
theorem Lq.toK {P:Program} {N:Nat→Prop} {c:Code} {E:Env} {L:List (Nat×LSpec)} {f:Nat} {S S2 S':St} {x:X} {is bs:List Nat} {k:Nat} (hE:EnvOk P E) (hL:LsOkn P N L c)
  (he:exec P E L (hs P E f).lf (hs P E f).cf c S (pick k is bs)=lk is bs .normal S2) (hx:S2.nxt=S.nxt) (hc:covK k is bs (S.heap.map fun q=>q.1) S2=true) (h:Lq P N c S2 x S'):Lq P N c S x S':=by
 exact .step hE hL (he.trans PC) (fun hsm=>LF hsm hx hc) h
theorem Lq.endK {P:Program} {N:Nat→Prop} {c:Code} {E:Env} {L:List (Nat×LSpec)} {f:Nat} {S S2:St} {x:X} {is bs:List Nat} {k:Nat} (hE:EnvOk P E) (hL:LsOkn P N L c)
  (he:exec P E L (hs P E f).lf (hs P E f).cf c S (pick k is bs)=lk is bs x S2) (hx':x≠ .normal) (hx:S2.nxt=S.nxt) (hc:covK k is bs (S.heap.map fun q=>q.1) S2=true):Lq P N c S x S2:=by
 exact .stop hE hL (he.trans PC) hx' (fun hsm=>LF hsm hx hc)
theorem Lq.into {P:Program} {N:Nat→Prop} {c:Code} {S S2 S':St} {x:X} (k:Nat) (is bs:List Nat) (hl:Nat.beq S.tmps.length k=true) (hn:S.nxt=S2.nxt) (ht:is.map (nth S.tmps)=is.map (nth S2.tmps)) (hh:bs.map (look S.heap)=bs.map (look S2.heap)) (hc:covB k is bs S2.nxt S2=true) (h:Lq P N c S2 x S'):Lq P N c S x S':=by
  refine .enter (fun _=> ?_) h
  simp only [covB,zB,List.all_eq_true] at hc
  obtain ⟨⟨⟨⟨c1,c2⟩,c3⟩,c4⟩,c5⟩:=hc
  have c2:=zE c2
  have hl:=zE hl
  rw [hn]
  refine ⟨rfl,by rw [c2,hl],fun i hg=> ?_,fun m b hm=> ?_,fun v hv=>fun g g' e=>Ft (fun m hm=>e m (by simpa [Nat.blt_eq] using hm)) 8 v (c4 v hv),fun m b hm=> ?_⟩
  · by_cases hlt:i<S2.tmps.length
    · have:=IE c3 hlt hg
      rw [Nat.zero_add] at this
      exact (Ie ht (F5.1 this)).symm
    · rw [Gj (by omega),Gj (by omega)]
  · have:=c5 _ (Eg hm)
    exact (Ie hh (F5.1 this.1.1)).trans hm
  · have:=c5 _ (Eg hm)
    exact ⟨by simpa [Nat.blt_eq] using this.1.2,fun c hc=>(Blk.clo_spec this.2 c hc).bnd _⟩
end RX
end
section
namespace Go.Proofs.YtpejalpgficopaaGreatDoor.G
open Go RX
theorem wu32 (n:Int):u32.wrap n=n%4294967296:=by
 simp only [IntKind.wrap,IntKind.signed,IntKind.bits,Bool.false_and,Bool.false_eq_true,if_false]
 rfl
theorem wu64 (n:Int):u64.wrap n=n%18446744073709551616:=by
 simp only [IntKind.wrap,IntKind.signed,IntKind.bits,Bool.false_and,Bool.false_eq_true,if_false]
 rfl
theorem wu8 (n:Int):IntKind.u8.wrap n=n%256:=by
 simp only [IntKind.wrap,IntKind.signed,IntKind.bits,Bool.false_and,Bool.false_eq_true,if_false]
 rfl
theorem u32of {n:Int} (h:0≤n) (h':n<4294967296):u32.wrap n=n:=by rw [wu32]; exact Int.emod_eq_of_lt h h'
theorem u64of {n:Int} (h:0≤n) (h':n<18446744073709551616):u64.wrap n=n:=by rw [wu64]; exact Int.emod_eq_of_lt h h'
theorem or_nat {a c i:Nat} (h:a<2^i):(a|||c*2^i)=a+c*2^i:=by
 rw [Nat.or_comm,Nat.mul_comm c,←Nat.two_pow_add_eq_or_of_lt h]
 omega
theorem orW {k:IntKind} {w:Nat} (hk:k.bits=w) (hs:k.signed=false) {a c:Int} {i:Nat} (ha:0≤a) (h:a<((2^i:Nat):Int)) (hc:0≤c) (hb:a+c*((2^i:Nat):Int)<((2^w:Nat):Int)):E6 .or k a (c*((2^i:Nat):Int))=a+c*((2^i:Nat):Int):=by
 obtain ⟨a,rfl⟩:=Int.eq_ofNat_of_zero_le ha
 obtain ⟨c,rfl⟩:=Int.eq_ofNat_of_zero_le hc
 have h':a<2^i:=by exact_mod_cast h
 have hb':a+c*2^i<2^w:=by exact_mod_cast hb
 have e:((c:Int)*((2^i:Nat):Int))=((c*2^i:Nat):Int):=by simp
 have hv:(BitVec.ofInt k.bits (a:Int)|||BitVec.ofInt k.bits ((c*2^i:Nat):Int)).toNat=a+c*2^i:=by
  rw [hk,BitVec.toNat_or]
  simp only [BitVec.ofInt_natCast,BitVec.toNat_ofNat]
  rw [Nat.mod_eq_of_lt (by omega),Nat.mod_eq_of_lt (by omega),or_nat h']
 rw [e]
 unfold E6
 simp only [hv]
 simp only [IntKind.wrap,hs,hk,Bool.false_and,Bool.false_eq_true,if_false]
 rw [Int.emod_eq_of_lt (by omega) (by exact_mod_cast hb')]
 simp
theorem or32 {a c:Int} {i:Nat} (ha:0≤a) (h:a<((2^i:Nat):Int)) (hc:0≤c) (hb:a+c*((2^i:Nat):Int)<4294967296):E6 .or .u32 a (c*((2^i:Nat):Int))=a+c*((2^i:Nat):Int):=orW (w:=32) rfl rfl ha h hc (by simpa using hb)
theorem or64 {a c:Int} {i:Nat} (ha:0≤a) (h:a<((2^i:Nat):Int)) (hc:0≤c) (hb:a+c*((2^i:Nat):Int)<18446744073709551616):E6 .or .u64 a (c*((2^i:Nat):Int))=a+c*((2^i:Nat):Int):=orW (w:=64) rfl rfl ha h hc (by simpa using hb)
theorem or_comm (k:IntKind) (a b:Int):E6 .or k a b=E6 .or k b a:=by
 unfold E6
 simp only [BitVec.or_comm]
def nv:List Int→Int
 |[]=>0
 |x::r=>x+4294967296*nv r
def dig (xs:List Int):Prop:=∀x∈xs,0≤x∧x<4294967296
def digB (xs:List Int):Bool:=xs.all fun x=>decide (0≤x)&&decide (x<4294967296)
theorem Fw {xs:List Int} :digB xs=true↔dig xs:=by simp [digB,dig]
def dg:Nat→Int→List Int
 |0,_=>[]
 |k+1,v=>v%4294967296::dg k (v/4294967296)
def seg (xs:List Int) (o l:Nat):List Int:=(xs.drop o).take l
def tl:List Int→Nat
 |[]=>0
 | x::r=>match tl r with
  |0=>bif x==0 then 0 else 1
  |k+1=>k+2
theorem Cw:∀(k:Nat) (v:Int),(dg k v).length=k
 |0,v=>rfl
 |k+1,v=>by simp [dg,Cw k]
theorem F4:∀(k:Nat) (v:Int),dig (dg k v)
 |0,v=>fun x h=>by simp [dg] at h
 | k+1,v=>fun x h=>by
  simp only [dg,List.mem_cons] at h
  rcases h with rfl|h
  ·exact ⟨Int.emod_nonneg _ (by decide),Int.emod_lt_of_pos _ (by decide)⟩
  ·exact F4 k _ x h
def pw (k:Nat):Int:=((4294967296^k:Nat):Int)
theorem GZ:pw 0=1:=rfl
theorem Eb (k:Nat):pw (k+1)=4294967296*pw k:=by simp only [pw,Nat.pow_succ,Int.natCast_mul]; rw [Int.mul_comm]; rfl
theorem Ep (k:Nat):0<pw k:=by
 have:=Nat.pow_pos (n:=k) (show 0<4294967296 by decide)
 simp only [pw]; omega
theorem G0:∀(k:Nat) (v:Int),0≤v→v<pw k→nv (dg k v)=v
 |0,v,h,h'=>by rw [GZ] at h'; simp only [dg,nv]; omega
 | k+1,v,h,h'=>by
  rw [Eb] at h'
  have hp:=Ep k
  simp only [dg,nv]
  rw [G0 k _ (Int.ediv_nonneg h (by decide)) (Int.ediv_lt_of_lt_mul (by decide) (by rw [Int.mul_comm]; exact h'))]
  exact Int.emod_add_mul_ediv v 4294967296
theorem Dx:∀ {xs:List Int},dig xs→0≤nv xs
 |[],_=>by simp [nv]
 | x::r,h=>by
  have h1:=h x (by simp)
  have h2:=Dx (xs:=r) fun y hy=>h y (by simp [hy])
  simp only [nv]; omega
theorem FF:∀ {xs:List Int},dig xs→nv xs<pw xs.length
 |[],_=>by simp [nv,GZ]
 | x::r,h=>by
  have h1:=h x (by simp)
  have h2:=FF (xs:=r) fun y hy=>h y (by simp [hy])
  simp only [nv,List.length_cons,Eb]; omega
theorem Ho:∀ {xs:List Int},dig xs→dg xs.length (nv xs)=xs
 |[],_=>rfl
 | x::r,h=>by
  have h1:=h x (by simp)
  have e1:(x+4294967296*nv r)%4294967296=x:=by omega
  have e2:(x+4294967296*nv r)/4294967296=nv r:=by omega
  simp only [nv,List.length_cons,dg,e1,e2]
  rw [Ho fun y hy=>h y (by simp [hy])]
theorem Jd:∀(xs ys:List Int),nv (xs++ys)=nv xs+pw xs.length*nv ys
 |[],ys=>by simp [nv,GZ]
 | x::r,ys=>by
  simp only [List.cons_append,nv,Jd r ys,List.length_cons,Eb,Int.mul_add,Int.mul_assoc]
  omega
theorem EB {xs:List Int} (h:dig xs) (o l:Nat):dig (seg xs o l):=fun x hx=>h x (List.mem_of_mem_drop (List.mem_of_mem_take hx))
theorem EL {xs:List Int} {o l:Nat} (h:o+l≤xs.length):(seg xs o l).length=l:=by simp [seg]; omega
theorem Kk {xs:List Int} {o l:Nat} (h:o+l<xs.length):seg xs o (l+1)=seg xs o l++[xs.getD (o+l) 0]:=by
 unfold seg
 rw [List.take_add_one,List.getElem?_drop,List.getElem?_eq_getElem h,List.getD_eq_getElem?_getD,List.getElem?_eq_getElem h]
 rfl
theorem FH (xs:List Int) (o:Nat):seg xs o 0=[]:=by simp [seg]
theorem seg_all (xs:List Int):seg xs 0 xs.length=xs:=by simp [seg]
theorem Hd (k:Nat) (v:Int):seg (dg k v) 0 k=dg k v:=by
 have:=seg_all (dg k v)
 rwa [Cw] at this
theorem HZ:∀(xs:List Int),tl (xs++[0])=tl xs
 |[]=>rfl
 |x::r=>by simp only [List.cons_append,tl,HZ r]
theorem Nm:∀(xs:List Int) {x:Int},x≠0→tl (xs++[x])=xs.length+1
 |[],x,h=>by simp [tl,E9 h]
 |y::r,x,h=>by simp only [List.cons_append,tl,Nm r h,List.length_cons]
theorem Fz:∀(xs:List Int),tl xs≤xs.length
 |[]=>Nat.le_refl _
 | x::r=>by
  have:=Fz r
  simp only [tl,List.length_cons]
  split
  ·cases x==0<;>simp
  ·rename_i k hk; omega
theorem L1:∀(xs:List Int),nv (xs.take (tl xs))=nv xs
 |[]=>rfl
 | x ::r=>by
  have ih:=L1 r
  simp only [tl]
  split
  ·rename_i h0
   rw [h0] at ih
   simp only [List.take_zero,nv] at ih
   cases hx:x==0 with
   | true=>
    have:x=0:=by simpa using hx
    simp only [cond_true,List.take_zero,nv]; omega
   |false=>simp only [cond_false,List.take_succ_cons,List.take_zero,nv]; omega
  ·rename_i k hk
   rw [hk] at ih
   simp only [List.take_succ_cons,nv,ih]
theorem KE:∀ {xs:List Int},dig xs→(tl xs=0↔nv xs=0)
 |[],_=>by simp [tl,nv]
 | x ::r,h=>by
  have h1:=h x (by simp)
  have hr:dig r:=fun y hy=>h y (by simp [hy])
  have ih:=KE hr
  have h2:=Dx hr
  simp only [tl,nv]
  split
  ·rename_i h0
   have:=ih.1 h0
   cases hx:x==0 with
   | true=>
    have:x=0:=by simpa using hx
    simp only [cond_true,true_iff]; omega
   | false=>
    have:x≠0:=by simpa using hx
    simp only [cond_false]; omega
  ·rename_i k hk
   have:nv r≠0:=fun e=>by have:=ih.2 e; omega
   omega
theorem Ob:∀ {xs:List Int} {k:Nat},dig xs→tl xs=k+1→pw k≤nv xs
 |[],k,_,h=>by simp [tl] at h
 | x ::r,k,hd,h=>by
  have h1:=hd x (by simp)
  have hr:dig r:=fun y hy=>hd y (by simp [hy])
  have h2:=Dx hr
  simp only [tl] at h
  simp only [nv]
  split at h
  ·cases hx:x==0 with
   |true=>rw [hx] at h; simp at h
   | false=>
    rw [hx] at h
    have:x≠0:=by simpa using hx
    have:k=0:=by simpa using h.symm
    subst this
    rw [GZ]; omega
  ·rename_i j hj
   have:k=j+1:=by omega
   subst this
   have:=Ob hr hj
   rw [Eb]; omega
theorem Lu {xs:List Int} (h:dig xs) (k:Nat):nv (seg xs 0 (tl xs))=nv xs:=by
 unfold seg
 rw [List.drop_zero,L1]
theorem EF {xs:List Int} (h:dig xs) (i:Nat):0≤xs.getD i 0∧xs.getD i 0<4294967296:=by
 rw [List.getD_eq_getElem?_getD]
 cases hx:xs[i]? with
 |none=>simp
 |some v=>exact h v (List.mem_of_getElem? hx)
theorem EU {xs:List Int} {o l:Nat} (h:o+l<xs.length):nv (seg xs o (l+1))=nv (seg xs o l)+pw l*xs.getD (o+l) 0:=by
 rw [Kk h,Jd,EL (by omega)]
 simp [nv]
theorem Ez {need:Bool} {x y:X} {S U:St} (h:(LT.got need x S).at=some (y,U)):need=true∧x=y∧S=U:=by
 cases need with
 |false=>cases h
 | true=>
  simp only [LT.at,cond_true,zS,zP] at h
  exact ⟨rfl,h.1,h.2⟩
end Go.Proofs.YtpejalpgficopaaGreatDoor.G
end
