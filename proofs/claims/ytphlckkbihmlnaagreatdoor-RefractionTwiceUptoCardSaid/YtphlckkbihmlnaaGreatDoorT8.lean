/- A part of what the law's proof leans on. PACKED BY pack.py of this repo. -/
import Derived.Test.YtphlckkbihmlnaaGreatDoorT7
set_option linter.unusedVariables false
set_option linter.unusedSimpArgs false
set_option linter.defProp false
set_option linter.unusedSectionVars false
section
namespace Go.Proofs.YtphlckkbihmlnaaGreatDoor.G
set_option maxRecDepth 100000
open Go Go.Proofs RX
section
variable {N:Nat→Prop} {xe:X} {Se:St} (zb:Bool) (zs:ByteArray) (lx cx ly cy:Nat) (xs ys:List Int)
abbrev gcd0.st:St:=⟨gbuild [(4,.pointer (some ⟨32,0,none⟩)),(5,.slice (some ⟨208,0,none⟩) lx cx),(6,.slice (some ⟨256,0,none⟩) ly cy)] 0 65,[(208,.is .u32 xs 144),(256,.is .u32 ys 144),(32,.cs [Value.bool zb,Value.string zs] 24)],304⟩
theorem gcd0.rnd:rd Tryz.prog ⟨[(132,div0.sp)],[],[]⟩ [] 5 (Ag Tryz.f118 0) (gcd0.st zb zs lx cx ly cy xs ys) 65 [4,5,6] [208,256,32]=
 bif decide (((ly:Nat):Int)>2) then bif Dl 0 lx xs&&Dl 0 ly ys&&decide (cmpI lx ly (nv (seg xs 0 lx)) (nv (seg ys 0 ly))<0) then some ((X.normal,[Value.pointer (some {block:=32,off:=0}),Value.slice (some {block:=256,off:=0}) ly cy,Value.slice (some {block:=208,off:=0}) lx cx],[some (Blk.is IntKind.u32 xs 144),some (Blk.is IntKind.u32 ys 144),some (Blk.cs [Value.bool zb,Value.string zs] 24)])) else none else bif decide (((lx:Nat):Int)>2) then bif decide (((ly:Nat):Int)>0) then bif Dl 0 lx xs&&Dl 0 ly ys&&decide (cmpI lx ly (nv (seg xs 0 lx)) (nv (seg ys 0 ly))<0) then some ((X.normal,[Value.pointer (some {block:=32,off:=0}),Value.slice (some {block:=256,off:=0}) ly cy,Value.slice (some {block:=208,off:=0}) lx cx],[some (Blk.is IntKind.u32 xs 144),some (Blk.is IntKind.u32 ys 144),some (Blk.cs [Value.bool zb,Value.string zs] 24)])) else none else some ((X.exit 0,[Value.pointer (some {block:=32,off:=0}),Value.slice (some {block:=208,off:=0}) lx cx,Value.slice (some {block:=256,off:=0}) ly cy],[some (Blk.is IntKind.u32 xs 144),some (Blk.is IntKind.u32 ys 144),some (Blk.cs [Value.bool zb,Value.string zs] 24)])) else some ((X.exit 0,[Value.pointer (some {block:=32,off:=0}),Value.slice (some {block:=208,off:=0}) lx cx,Value.slice (some {block:=256,off:=0}) ly cy],[some (Blk.is IntKind.u32 xs 144),some (Blk.is IntKind.u32 ys 144),some (Blk.cs [Value.bool zb,Value.string zs] 24)])):=by kernel_rfl
def gcd0.step0:=fun h0 h1 (ih:Lq Tryz.prog (fun n=>n=0) (Ag Tryz.f118 0) (gcd0.st zb zs ly cy lx cx ys xs) xe (Se))=>Lq.step (S2:=gcd0.st zb zs ly cy lx cx ys xs) (f:=5) ⟨Aa div0.ok Ac,Ai,Ad,Ah⟩ Ba (((gcd0.rnd zb zs lx cx ly cy xs ys).ct h0).ct h1) (fun h=>LW (ρ:=mp [(208,256),(256,208)]) (.cons ⟨⟨_,rfl,(ruP rfl)⟩,(bptr (Nat.le_of_ble_eq_true rfl))⟩ (.cons ⟨⟨_,rfl,(ruS rfl)⟩,(bslice (Nat.le_of_ble_eq_true rfl))⟩ (.cons ⟨⟨_,rfl,(ruS rfl)⟩,(bslice (Nat.le_of_ble_eq_true rfl))⟩ .nil))) (.cons ⟨rfl,(Nat.le_of_ble_eq_true rfl),rfl⟩ (.cons ⟨rfl,(Nat.le_of_ble_eq_true rfl),rfl⟩ (.cons ⟨rfl,(Nat.le_of_ble_eq_true rfl),rfl⟩ .nil))) rfl) ih
def gcd0.step1:=fun h0 h1 h2 h3 (ih:Lq Tryz.prog (fun n=>n=0) (Ag Tryz.f118 0) (gcd0.st zb zs ly cy lx cx ys xs) xe (Se))=>Lq.step (S2:=gcd0.st zb zs ly cy lx cx ys xs) (f:=5) ⟨Aa div0.ok Ac,Ai,Ad,Ah⟩ Ba (((((gcd0.rnd zb zs lx cx ly cy xs ys).cf h0).ct h1).ct h2).ct h3) (fun h=>LW (ρ:=mp [(208,256),(256,208)]) (.cons ⟨⟨_,rfl,(ruP rfl)⟩,(bptr (Nat.le_of_ble_eq_true rfl))⟩ (.cons ⟨⟨_,rfl,(ruS rfl)⟩,(bslice (Nat.le_of_ble_eq_true rfl))⟩ (.cons ⟨⟨_,rfl,(ruS rfl)⟩,(bslice (Nat.le_of_ble_eq_true rfl))⟩ .nil))) (.cons ⟨rfl,(Nat.le_of_ble_eq_true rfl),rfl⟩ (.cons ⟨rfl,(Nat.le_of_ble_eq_true rfl),rfl⟩ (.cons ⟨rfl,(Nat.le_of_ble_eq_true rfl),rfl⟩ .nil))) rfl) ih
def gcd0.stop2:=fun h0 h1 h2=>Lq.stop (S2:=gcd0.st zb zs lx cx ly cy xs ys) (N:=(fun n=>n=0)) (f:=5) ⟨Aa div0.ok Ac,Ai,Ad,Ah⟩ Ba ((((gcd0.rnd zb zs lx cx ly cy xs ys).cf h0).ct h1).cf h2) (fun q=>by cases q) (fun h=>LW (ρ:=mp []) (.cons ⟨⟨_,rfl,(ruP rfl)⟩,(bptr (Nat.le_of_ble_eq_true rfl))⟩ (.cons ⟨⟨_,rfl,(ruS rfl)⟩,(bslice (Nat.le_of_ble_eq_true rfl))⟩ (.cons ⟨⟨_,rfl,(ruS rfl)⟩,(bslice (Nat.le_of_ble_eq_true rfl))⟩ .nil))) (.cons ⟨rfl,(Nat.le_of_ble_eq_true rfl),rfl⟩ (.cons ⟨rfl,(Nat.le_of_ble_eq_true rfl),rfl⟩ (.cons ⟨rfl,(Nat.le_of_ble_eq_true rfl),rfl⟩ .nil))) rfl)
def gcd0.stop3:=fun h0 h1=>Lq.stop (S2:=gcd0.st zb zs lx cx ly cy xs ys) (N:=(fun n=>n=0)) (f:=5) ⟨Aa div0.ok Ac,Ai,Ad,Ah⟩ Ba (((gcd0.rnd zb zs lx cx ly cy xs ys).cf h0).cf h1) (fun q=>by cases q) (fun h=>LW (ρ:=mp []) (.cons ⟨⟨_,rfl,(ruP rfl)⟩,(bptr (Nat.le_of_ble_eq_true rfl))⟩ (.cons ⟨⟨_,rfl,(ruS rfl)⟩,(bslice (Nat.le_of_ble_eq_true rfl))⟩ (.cons ⟨⟨_,rfl,(ruS rfl)⟩,(bslice (Nat.le_of_ble_eq_true rfl))⟩ .nil))) (.cons ⟨rfl,(Nat.le_of_ble_eq_true rfl),rfl⟩ (.cons ⟨rfl,(Nat.le_of_ble_eq_true rfl),rfl⟩ (.cons ⟨rfl,(Nat.le_of_ble_eq_true rfl),rfl⟩ .nil))) rfl)
end
section
variable {N:Nat→Prop} {xe:X} {Se:St} (zb:Bool) (zs:ByteArray) (lx cx ly cy:Nat) (xs ys:List Int)
theorem gcd1.rnd:rd Tryz.prog ⟨[(132,div1.sp)],[],[]⟩ [] 5 (Ag Tryz.f118 0) (gcd0.st zb zs lx cx ly cy xs ys) 65 [4,5,6] [208,256,32,417,545]=
 bif decide (((ly:Nat):Int)>2) then bif Dl 0 lx xs&&(Dl 0 ly ys&&(ly.beq 1&&(decide (0≤cmpI lx ly (nv (seg xs 0 lx)) (nv (seg ys 0 ly)))&&decide (0<nv (seg ys 0 ly))))) then some ((X.normal,[Value.pointer (some {block:=32,off:=0}),Value.slice (some {block:=256,off:=0}) ly cy,Value.slice (some {block:=417,off:=0}) (tl (dg 1 (nv (seg xs 0 lx)%nv (seg ys 0 ly)))) 1],[some (Blk.is IntKind.u32 xs 144),some (Blk.is IntKind.u32 ys 144),some (Blk.cs [Value.bool zb,Value.string zs] 24),some (Blk.is IntKind.u32 (dg 1 (nv (seg xs 0 lx)%nv (seg ys 0 ly))) 144),none])) else none else bif decide (((lx:Nat):Int)>2) then bif decide (((ly:Nat):Int)>0) then bif Dl 0 lx xs&&(Dl 0 ly ys&&(ly.beq 1&&(decide (0≤cmpI lx ly (nv (seg xs 0 lx)) (nv (seg ys 0 ly)))&&decide (0<nv (seg ys 0 ly))))) then some ((X.normal,[Value.pointer (some {block:=32,off:=0}),Value.slice (some {block:=256,off:=0}) ly cy,Value.slice (some {block:=545,off:=0}) (tl (dg 1 (nv (seg xs 0 lx)%nv (seg ys 0 ly)))) 1],[some (Blk.is IntKind.u32 xs 144),some (Blk.is IntKind.u32 ys 144),some (Blk.cs [Value.bool zb,Value.string zs] 24),none,some (Blk.is IntKind.u32 (dg 1 (nv (seg xs 0 lx)%nv (seg ys 0 ly))) 144)])) else none else some ((X.exit 0,[Value.pointer (some {block:=32,off:=0}),Value.slice (some {block:=208,off:=0}) lx cx,Value.slice (some {block:=256,off:=0}) ly cy],[some (Blk.is IntKind.u32 xs 144),some (Blk.is IntKind.u32 ys 144),some (Blk.cs [Value.bool zb,Value.string zs] 24),none,none])) else some ((X.exit 0,[Value.pointer (some {block:=32,off:=0}),Value.slice (some {block:=208,off:=0}) lx cx,Value.slice (some {block:=256,off:=0}) ly cy],[some (Blk.is IntKind.u32 xs 144),some (Blk.is IntKind.u32 ys 144),some (Blk.cs [Value.bool zb,Value.string zs] 24),none,none])):=by kernel_rfl
def gcd1.step0:=fun h0 h1 (ih:Lq Tryz.prog (fun n=>n=0) (Ag Tryz.f118 0) (gcd0.st zb zs ly cy (tl (dg 1 (nv (seg xs 0 lx)%nv (seg ys 0 ly)))) 1 ys (dg 1 (nv (seg xs 0 lx)%nv (seg ys 0 ly)))) xe (Se))=>Lq.step (S2:=gcd0.st zb zs ly cy (tl (dg 1 (nv (seg xs 0 lx)%nv (seg ys 0 ly)))) 1 ys (dg 1 (nv (seg xs 0 lx)%nv (seg ys 0 ly)))) (f:=5) ⟨Aa div1.ok Ac,Ai,Ad,Ah⟩ Ba (((gcd1.rnd zb zs lx cx ly cy xs ys).ct h0).ct h1) (fun h=>LW (ρ:=mp [(208,256),(256,417)]) (.cons ⟨⟨_,rfl,(ruP rfl)⟩,(bptr (Nat.le_of_ble_eq_true rfl))⟩ (.cons ⟨⟨_,rfl,(ruS rfl)⟩,(bslice (Nat.le_of_ble_eq_true rfl))⟩ (.cons ⟨⟨_,rfl,(ruS rfl)⟩,(bslice (Nat.le_of_ble_eq_true rfl))⟩ .nil))) (.cons ⟨rfl,(Nat.le_of_ble_eq_true rfl),rfl⟩ (.cons ⟨rfl,(Nat.le_of_ble_eq_true rfl),rfl⟩ (.cons ⟨rfl,(Nat.le_of_ble_eq_true rfl),rfl⟩ .nil))) rfl) ih
def gcd1.step1:=fun h0 h1 h2 h3 (ih:Lq Tryz.prog (fun n=>n=0) (Ag Tryz.f118 0) (gcd0.st zb zs ly cy (tl (dg 1 (nv (seg xs 0 lx)%nv (seg ys 0 ly)))) 1 ys (dg 1 (nv (seg xs 0 lx)%nv (seg ys 0 ly)))) xe (Se))=>Lq.step (S2:=gcd0.st zb zs ly cy (tl (dg 1 (nv (seg xs 0 lx)%nv (seg ys 0 ly)))) 1 ys (dg 1 (nv (seg xs 0 lx)%nv (seg ys 0 ly)))) (f:=5) ⟨Aa div1.ok Ac,Ai,Ad,Ah⟩ Ba (((((gcd1.rnd zb zs lx cx ly cy xs ys).cf h0).ct h1).ct h2).ct h3) (fun h=>LW (ρ:=mp [(208,256),(256,545)]) (.cons ⟨⟨_,rfl,(ruP rfl)⟩,(bptr (Nat.le_of_ble_eq_true rfl))⟩ (.cons ⟨⟨_,rfl,(ruS rfl)⟩,(bslice (Nat.le_of_ble_eq_true rfl))⟩ (.cons ⟨⟨_,rfl,(ruS rfl)⟩,(bslice (Nat.le_of_ble_eq_true rfl))⟩ .nil))) (.cons ⟨rfl,(Nat.le_of_ble_eq_true rfl),rfl⟩ (.cons ⟨rfl,(Nat.le_of_ble_eq_true rfl),rfl⟩ (.cons ⟨rfl,(Nat.le_of_ble_eq_true rfl),rfl⟩ .nil))) rfl) ih
end
section
variable {N:Nat→Prop} {xe:X} {Se:St} (zb:Bool) (zs:ByteArray) (lx cx ly cy:Nat) (xs ys:List Int)
theorem gcd2.rnd:rd Tryz.prog ⟨[(132,div2.sp)],[],[]⟩ [] 5 (Ag Tryz.f118 0) (gcd0.st zb zs lx cx ly cy xs ys) 65 [4,5,6] [208,256,32,417,545]=
 bif decide (((ly:Nat):Int)>2) then bif Dl 0 lx xs&&(Dl 0 ly ys&&(Nat.ble 2 ly&&(ly.ble lx&&(lx.ble 4294967295&&(decide (0≤cmpI lx ly (nv (seg xs 0 lx)) (nv (seg ys 0 ly)))&&decide (0<ys.getD (0+(ly-1)) 0)))))) then some ((X.normal,[Value.pointer (some {block:=32,off:=0}),Value.slice (some {block:=256,off:=0}) ly cy,Value.slice (some {block:=417,off:=0}) (tl (dg (lx+1) (nv (seg xs 0 lx)%nv (seg ys 0 ly)))) (lx+1)],[some (Blk.is IntKind.u32 xs 144),some (Blk.is IntKind.u32 ys 144),some (Blk.cs [Value.bool zb,Value.string zs] 24),some (Blk.is IntKind.u32 (dg (lx+1) (nv (seg xs 0 lx)%nv (seg ys 0 ly))) 144),none])) else none else bif decide (((lx:Nat):Int)>2) then bif decide (((ly:Nat):Int)>0) then bif Dl 0 lx xs&&(Dl 0 ly ys&&(Nat.ble 2 ly&&(ly.ble lx&&(lx.ble 4294967295&&(decide (0≤cmpI lx ly (nv (seg xs 0 lx)) (nv (seg ys 0 ly)))&&decide (0<ys.getD (0+(ly-1)) 0)))))) then some ((X.normal,[Value.pointer (some {block:=32,off:=0}),Value.slice (some {block:=256,off:=0}) ly cy,Value.slice (some {block:=545,off:=0}) (tl (dg (lx+1) (nv (seg xs 0 lx)%nv (seg ys 0 ly)))) (lx+1)],[some (Blk.is IntKind.u32 xs 144),some (Blk.is IntKind.u32 ys 144),some (Blk.cs [Value.bool zb,Value.string zs] 24),none,some (Blk.is IntKind.u32 (dg (lx+1) (nv (seg xs 0 lx)%nv (seg ys 0 ly))) 144)])) else none else some ((X.exit 0,[Value.pointer (some {block:=32,off:=0}),Value.slice (some {block:=208,off:=0}) lx cx,Value.slice (some {block:=256,off:=0}) ly cy],[some (Blk.is IntKind.u32 xs 144),some (Blk.is IntKind.u32 ys 144),some (Blk.cs [Value.bool zb,Value.string zs] 24),none,none])) else some ((X.exit 0,[Value.pointer (some {block:=32,off:=0}),Value.slice (some {block:=208,off:=0}) lx cx,Value.slice (some {block:=256,off:=0}) ly cy],[some (Blk.is IntKind.u32 xs 144),some (Blk.is IntKind.u32 ys 144),some (Blk.cs [Value.bool zb,Value.string zs] 24),none,none])):=by kernel_rfl
def gcd2.step0:=fun h0 h1 (ih:Lq Tryz.prog (fun n=>n=0) (Ag Tryz.f118 0) (gcd0.st zb zs ly cy (tl (dg (lx+1) (nv (seg xs 0 lx)%nv (seg ys 0 ly)))) (lx+1) ys (dg (lx+1) (nv (seg xs 0 lx)%nv (seg ys 0 ly)))) xe (Se))=>Lq.step (S2:=gcd0.st zb zs ly cy (tl (dg (lx+1) (nv (seg xs 0 lx)%nv (seg ys 0 ly)))) (lx+1) ys (dg (lx+1) (nv (seg xs 0 lx)%nv (seg ys 0 ly)))) (f:=5) ⟨Aa div2.ok Ac,Ai,Ad,Ah⟩ Ba (((gcd2.rnd zb zs lx cx ly cy xs ys).ct h0).ct h1) (fun h=>LW (ρ:=mp [(208,256),(256,417)]) (.cons ⟨⟨_,rfl,(ruP rfl)⟩,(bptr (Nat.le_of_ble_eq_true rfl))⟩ (.cons ⟨⟨_,rfl,(ruS rfl)⟩,(bslice (Nat.le_of_ble_eq_true rfl))⟩ (.cons ⟨⟨_,rfl,(ruS rfl)⟩,(bslice (Nat.le_of_ble_eq_true rfl))⟩ .nil))) (.cons ⟨rfl,(Nat.le_of_ble_eq_true rfl),rfl⟩ (.cons ⟨rfl,(Nat.le_of_ble_eq_true rfl),rfl⟩ (.cons ⟨rfl,(Nat.le_of_ble_eq_true rfl),rfl⟩ .nil))) rfl) ih
def gcd2.step1:=fun h0 h1 h2 h3 (ih:Lq Tryz.prog (fun n=>n=0) (Ag Tryz.f118 0) (gcd0.st zb zs ly cy (tl (dg (lx+1) (nv (seg xs 0 lx)%nv (seg ys 0 ly)))) (lx+1) ys (dg (lx+1) (nv (seg xs 0 lx)%nv (seg ys 0 ly)))) xe (Se))=>Lq.step (S2:=gcd0.st zb zs ly cy (tl (dg (lx+1) (nv (seg xs 0 lx)%nv (seg ys 0 ly)))) (lx+1) ys (dg (lx+1) (nv (seg xs 0 lx)%nv (seg ys 0 ly)))) (f:=5) ⟨Aa div2.ok Ac,Ai,Ad,Ah⟩ Ba (((((gcd2.rnd zb zs lx cx ly cy xs ys).cf h0).ct h1).ct h2).ct h3) (fun h=>LW (ρ:=mp [(208,256),(256,545)]) (.cons ⟨⟨_,rfl,(ruP rfl)⟩,(bptr (Nat.le_of_ble_eq_true rfl))⟩ (.cons ⟨⟨_,rfl,(ruS rfl)⟩,(bslice (Nat.le_of_ble_eq_true rfl))⟩ (.cons ⟨⟨_,rfl,(ruS rfl)⟩,(bslice (Nat.le_of_ble_eq_true rfl))⟩ .nil))) (.cons ⟨rfl,(Nat.le_of_ble_eq_true rfl),rfl⟩ (.cons ⟨rfl,(Nat.le_of_ble_eq_true rfl),rfl⟩ (.cons ⟨rfl,(Nat.le_of_ble_eq_true rfl),rfl⟩ .nil))) rfl) ih
end
section
variable {N:Nat→Prop} {xe:X} {Se:St} (zb:Bool) (zs:ByteArray) (n m:Int) (nx:Nat)
abbrev gce.st:St:=⟨gbuild [(4,.pointer (some ⟨32,0,none⟩)),(9,.int .u64 n),(10,.int .u64 m)] 0 65,[(32,.cs [Value.bool zb,Value.string zs] 24)],nx⟩
abbrev gce.lk:=RX.lk [4,9,10] [32]
theorem gce.rnd:rd Tryz.prog ⟨[],[],[]⟩ [] 3 (Ag Tryz.f118 2) (gce.st zb zs n m nx) 65 [4,9,10] [32]=
 bif m !=0 then bif m !=0 then gce.lk .normal (gce.st zb zs m (n.tmod m) nx) else none else gce.lk (.exit 2) (gce.st zb zs n m nx):=by kernel_rfl
def gce.step0:=fun h0 h1 (ih:Lq Tryz.prog N (Ag Tryz.f118 2) _ xe Se)=>Lq.toK (f:=3) ⟨Ac,Ai,Ad,Ah⟩ Ba (((gce.rnd zb zs n m nx).ct h0).ct h1) rfl rfl ih
def gce.stop1:=fun h0=>Lq.endK (N:=N) (f:=3) ⟨Ac,Ai,Ad,Ah⟩ Ba ((gce.rnd zb zs n m nx).cf h0) (fun q=>by cases q) rfl rfl
end
theorem Lw (a b:Int):Int.gcd a (b%a)=Int.gcd a b:=by
 have h:=Int.emod_add_mul_ediv b a
 have h1:=Int.gcd_add_mul_right_right a (b%a) (b/a)
 rw [Int.mul_comm (b/a),h] at h1
 exact h1.symm
theorem gI_ex:∃f:Int→Int→Int,∀a b,f a b=((Int.gcd a b:Nat):Int):=⟨_,fun _ _=>rfl⟩
noncomputable def gI:Int→Int→Int:=Classical.choose gI_ex
theorem HA (a b:Int):gI a b=((Int.gcd a b:Nat):Int):=Classical.choose_spec gI_ex a b
structure GQ where
 xs:List Int
 cx:Nat
 ys:List Int
 cy:Nat
def GQ.more (q:GQ):Bool:=decide (2<tl q.ys)||(decide (2<tl q.xs)&&decide (0<tl q.ys))
def GQ.next (q:GQ):GQ:=bif decide (nv q.xs<nv q.ys) then ⟨q.ys,q.cy,q.xs,q.cx⟩ else bif Nat.beq (tl q.ys) 1 then ⟨q.ys,q.cy,dg 1 (nv q.xs%nv q.ys),1⟩ else ⟨q.ys,q.cy,dg (tl q.xs+1) (nv q.xs%nv q.ys),tl q.xs+1⟩
def GQ.go:Nat→GQ→GQ
 |0,q=>q
 |k+1,q=>bif q.more then GQ.go k q.next else q
theorem gq_ex:∃f:GQ→GQ,∀q,f q=GQ.go ((nv q.ys).toNat+1) q:=⟨_,fun _=>rfl⟩
noncomputable def gq:GQ→GQ:=Classical.choose gq_ex
theorem gq_eq (q:GQ):gq q=GQ.go ((nv q.ys).toNat+1) q:=Classical.choose_spec gq_ex q
structure GQ.Ok (q:GQ):Prop where
 x:dig q.xs
 y:dig q.ys
 lx:tl q.xs≤2147483648
 ly:tl q.ys≤2147483648
theorem QV {xs:List Int} (h:dig xs):nv (seg xs 0 (tl xs))=nv xs:=NE h 0
theorem KZ {xs:List Int} (h:dig xs) (h':tl xs≤2147483648):Dl 0 (tl xs) xs=true:=Eb.2 ⟨by have:=Hc xs; omega,by omega,h⟩
theorem cmp_tl {xs ys:List Int} (hx:dig xs) (hy:dig ys):cmpI (tl xs) (tl ys) (nv xs) (nv ys)≥0↔nv ys≤nv xs:=by
 have:=Jo (n:=xs.length) (m:=ys.length) (Ea hx) (Gk hx) (Ea hy) (Gk hy)
 rwa [JM hx,JM hy] at this
theorem OD {xs ys:List Int} (hx:dig xs) (hy:dig ys) (h:nv ys≤nv xs):tl ys≤tl xs:=by
 have:=Py (n:=xs.length) (m:=ys.length) (Ea hx) (Gk hx) (Ea hy) (Gk hy) h
 rwa [JM hx,JM hy] at this
theorem top_of {ys:List Int} (hy:dig ys) (h:0<nv ys):1≤tl ys∧0<ys.getD (0+(tl ys-1)) 0:=by
 have:=PA h (Gk hy)
 rwa [JM hy] at this
theorem MW {xs:List Int} (hx:dig xs):nv xs<pw (tl xs):=by
 have:=IL (Ea hx) (Gk hx)
 rwa [JM hx] at this
theorem PM {ys:List Int} (hy:dig ys):0<tl ys↔0<nv ys:=by
 have h1:=Lg hy
 have h2:=Ea hy
 omega
theorem GQ.Ok.next {q:GQ} (h:q.Ok) (hm:q.more=true):q.next.Ok∧nv q.next.ys<nv q.ys∧0≤nv q.next.ys∧Int.gcd (nv q.next.xs) (nv q.next.ys)=Int.gcd (nv q.xs) (nv q.ys):=by
 obtain ⟨hx,hy,lx,ly⟩:=h
 have hp:0<nv q.ys:=(PM hy).1 (by simp only [GQ.more,Bool.or_eq_true,Bool.and_eq_true,decide_eq_true_eq] at hm; omega)
 have a0:=Ea hx
 have m0:=Int.emod_nonneg (nv q.xs) (show nv q.ys≠0 by omega)
 have m1:=Int.emod_lt_of_pos (nv q.xs) hp
 have hg:Int.gcd (nv q.ys) (nv q.xs%nv q.ys)=Int.gcd (nv q.xs) (nv q.ys):=by
  rw [Int.gcd_comm (nv q.xs)]; exact Lw _ _
 unfold GQ.next
 cases hc:decide (nv q.xs<nv q.ys) with
 | true=>
  simp only [cond_true]
  exact ⟨⟨hy,hx,ly,lx⟩,of_decide_eq_true hc,a0,Int.gcd_comm _ _⟩
 | false=>
  have hc:=of_decide_eq_false hc
  have hlx:=MW hx
  simp only [cond_false]
  cases hb:Nat.beq (tl q.ys) 1 with
  | true=>
   have hb:=Nat.eq_of_beq_eq_true hb
   have hly:=MW hy
   rw [hb] at hly
   have ht:=Hc (dg 1 (nv q.xs%nv q.ys))
   rw [Cx] at ht
   simp only [cond_true]
   rw [Hd 1 _ m0 (by omega)]
   exact ⟨⟨hy,GZ _ _,ly,by show tl (dg 1 _)≤_; omega⟩,m1,m0,hg⟩
  | false=>
   have h1:pw (tl q.xs)≤pw (tl q.xs+1):=HK (by omega)
   simp only [cond_false]
   have ht:tl (dg (tl q.xs+1) (nv q.xs%nv q.ys))≤tl q.ys:=by
    have:=OD (xs:=q.ys) (ys:=dg (tl q.xs+1) (nv q.xs%nv q.ys)) hy (GZ _ _) (by rw [Hd _ _ m0 (by omega)]; omega)
    exact this
   rw [Hd _ _ m0 (by omega)]
   exact ⟨⟨hy,GZ _ _,ly,Nat.le_trans ht ly⟩,m1,m0,hg⟩
theorem GQ.go_ok:∀(k:Nat) (q:GQ),q.Ok→nv q.ys<k→(GQ.go k q).Ok∧(GQ.go k q).more=false∧Int.gcd (nv (GQ.go k q).xs) (nv (GQ.go k q).ys)=Int.gcd (nv q.xs) (nv q.ys)
 |0,q,h,hk=>by have:=Ea h.y; omega
 | k +1,q,h,hk=>by
  unfold GQ.go
  cases hm:q.more with
  |false=>exact ⟨h,hm,rfl⟩
  | true=>
   obtain ⟨h1,h2,_,h3⟩:=h.next hm
   obtain ⟨r1,r2,r3⟩:=GQ.go_ok k q.next h1 (by omega)
   simp only [cond_true]
   exact ⟨r1,r2,r3.trans h3⟩
abbrev GQ.st (q:GQ) (zb:Bool) (zs:ByteArray):St:=gcd0.st zb zs (tl q.xs) q.cx (tl q.ys) q.cy q.xs q.ys
def gcd0.ok (lx ly:Nat) (xs ys:List Int):Bool:=digB xs&&(digB ys&&(Nat.beq lx (tl xs)&&(Nat.beq ly (tl ys)&&(Nat.ble lx 2147483648&&Nat.ble ly 2147483648))))
noncomputable def gcd0.lt (zb:Bool) (zs:ByteArray) (lx cx ly cy:Nat) (xs ys:List Int):LT:= .got (gcd0.ok lx ly xs ys) (.exit 0) (GQ.st (gq ⟨xs,cx,ys,cy⟩) zb zs)
theorem gcd0.go (zb:Bool) (zs:ByteArray):∀(k:Nat) (q:GQ),q.Ok→nv q.ys<k→Lq Tryz.prog (fun n=>n=0) (Ag Tryz.f118 0) (q.st zb zs) (.exit 0) ((GQ.go k q).st zb zs)
 |0,q,h,hk=>by have:=Ea h.y; omega
 | k + 1,q,h,hk=>by
  unfold GQ.go
  cases hm:q.more with
  | false=>
   have hm':¬2<tl q.ys∧(2<tl q.xs→¬0<tl q.ys):=by simpa [GQ.more] using hm
   by_cases h1:2<tl q.xs
   ·exact gcd0.stop2 _ _ _ _ _ _ _ _ (dfalse (by omega)) (dtrue (by omega)) (dfalse (by have:=hm'.2 h1; omega))
   ·exact gcd0.stop3 _ _ _ _ _ _ _ _ (dfalse (by omega)) (dfalse (by omega))
  | true=>
   obtain ⟨n1,n2,n3,_⟩:=h.next hm
   have ih:=gcd0.go zb zs k q.next n1 (by omega)
   obtain ⟨hx,hy,lx,ly⟩:=h
   have hm':2<tl q.ys∨2<tl q.xs∧0<tl q.ys:=by simpa [GQ.more] using hm
   have hp:0<nv q.ys:=(PM hy).1 (by omega)
   have ex:=QV hx
   have ey:=QV hy
   have ox:=KZ hx lx
   have oy:=KZ hy ly
   have hcm:=cmp_tl hx hy
   simp only [cond_true]
   unfold GQ.next at ih ⊢
   cases hc:decide (nv q.xs<nv q.ys) with
   | true=>
    have hc':=of_decide_eq_true hc
    rw [hc] at ih
    simp only [cond_true] at ih ⊢
    have key:(Dl 0 (tl q.xs) q.xs&&Dl 0 (tl q.ys) q.ys&&decide (cmpI (tl q.xs) (tl q.ys) (nv (seg q.xs 0 (tl q.xs))) (nv (seg q.ys 0 (tl q.ys)))<0))=true:=by
     rw [ex,ey,ox,oy,Bool.and_self,Bool.true_and]; exact dtrue (by omega)
    by_cases h1:2<tl q.ys
    ·exact gcd0.step0 _ _ _ _ _ _ _ _ (dtrue (by omega)) key ih
    ·exact gcd0.step1 _ _ _ _ _ _ _ _ (dfalse (by omega)) (dtrue (by omega)) (dtrue (by omega)) key ih
   | false=>
    have hc':=of_decide_eq_false hc
    rw [hc] at ih
    simp only [cond_false] at ih ⊢
    cases hb:Nat.beq (tl q.ys) 1 with
    | true=>
     rw [hb] at ih
     simp only [cond_true] at ih ⊢
     have key:(Dl 0 (tl q.xs) q.xs&&(Dl 0 (tl q.ys) q.ys&&((tl q.ys).beq 1&&(decide (0≤cmpI (tl q.xs) (tl q.ys) (nv (seg q.xs 0 (tl q.xs))) (nv (seg q.ys 0 (tl q.ys))))&&decide (0<nv (seg q.ys 0 (tl q.ys)))))))=true:=by
      rw [ex,ey,ox,oy,Bool.true_and,Bool.true_and,hb,Bool.true_and]; exact dtrue2 (by omega) hp
     by_cases h1:2<tl q.ys
     ·exact gcd1.step0 _ _ _ _ _ _ _ _ (dtrue (by omega)) key (by rw [ex,ey]; exact ih)
     ·exact gcd1.step1 _ _ _ _ _ _ _ _ (dfalse (by omega)) (dtrue (by omega)) (dtrue (by omega)) key (by rw [ex,ey]; exact ih)
    | false=>
     rw [hb] at ih
     simp only [cond_false] at ih ⊢
     have hb':tl q.ys≠1:=fun e=>by rw [e] at hb; cases hb
     obtain ⟨t1,t2⟩:=top_of hy hp
     have hle:=OD hx hy (show nv q.ys≤nv q.xs by omega)
     have key:(Dl 0 (tl q.xs) q.xs&&(Dl 0 (tl q.ys) q.ys&&(Nat.ble 2 (tl q.ys)&&((tl q.ys).ble (tl q.xs)&&((tl q.xs).ble 4294967295&&(decide (0≤cmpI (tl q.xs) (tl q.ys) (nv (seg q.xs 0 (tl q.xs))) (nv (seg q.ys 0 (tl q.ys))))&&decide (0<q.ys.getD (0+(tl q.ys-1)) 0)))))))=true:=by
      rw [ex,ey,ox,oy,Bool.true_and,Bool.true_and,Nat.ble_eq_true_of_le (show 2≤tl q.ys by omega),Nat.ble_eq_true_of_le hle,Nat.ble_eq_true_of_le (show tl q.xs≤4294967295 by omega),Bool.true_and,Bool.true_and,Bool.true_and]
      exact dtrue2 (by omega) t2
     by_cases h1:2<tl q.ys
     ·exact gcd2.step0 _ _ _ _ _ _ _ _ (dtrue (by omega)) key (by rw [ex,ey]; exact ih)
     ·exact gcd2.step1 _ _ _ _ _ _ _ _ (dfalse (by omega)) (dtrue (by omega)) (dtrue (by omega)) key (by rw [ex,ey]; exact ih)
theorem gcd0.lp (zb:Bool) (zs:ByteArray) (lx cx ly cy:Nat) (xs ys:List Int) {x:X} {S':St} (h:(gcd0.lt zb zs lx cx ly cy xs ys).at=some (x,S')):Lq Tryz.prog (fun n=>n=0) (Ag Tryz.f118 0) (gcd0.st zb zs lx cx ly cy xs ys) x S':=by
 obtain ⟨h1,rfl,rfl⟩:=Fk h
 simp only [gcd0.ok,Bool.and_eq_true,Nat.ble_eq,Ha] at h1
 obtain ⟨hx,hy,e1,e2,h5,h6⟩:=h1
 obtain rfl:=Nat.eq_of_beq_eq_true e1
 obtain rfl:=Nat.eq_of_beq_eq_true e2
 rw [gq_eq]
 have hn:=Ea hy
 exact gcd0.go zb zs ((nv ys).toNat+1) ⟨xs,cx,ys,cy⟩ ⟨hx,hy,h5,h6⟩ (by show nv ys<_; omega)
noncomputable def gcd0.t:LSpec:=fun S=>match RX.nth S.tmps 4,RX.nth S.tmps 5,RX.nth S.tmps 6,RX.look S.heap 208,RX.look S.heap 256,RX.look S.heap 32,S.nxt with
 | .pointer (some ⟨32,0,none⟩),.slice (some ⟨208,0,none⟩) lx cx,.slice (some ⟨256,0,none⟩) ly cy,some (.is .u32 xs 144),some (.is .u32 ys 144),some (.cs [Value.bool zb,Value.string zs] 24),304=>bif Nat.beq S.tmps.length 65 then some (gcd0.lt zb zs lx cx ly cy xs ys) else none
 |_,_,_,_,_,_,_=>none
theorem gcd0.lok:LOKn Tryz.prog (fun n=>n=0) (Ag Tryz.f118 0) (gcd0.t):=by
 refine GO fun S lt x S' ht hat=> ?_
 unfold gcd0.t at ht
 split at ht
 ·rename_i lx cx ly cy xs ys zb zs h4 h5 h6 g208 g256 g32 hnx
  cases hb:Nat.beq S.tmps.length 65 with
  |false=>rw [hb] at ht; cases ht
  | true=>
   rw [hb] at ht
   injection ht with ht
   subst ht
   have hb:=Nat.eq_of_beq_eq_true hb
   obtain ⟨T,H,_⟩:=S
   subst hnx
   exact .enter (fun h=>Gc hb (.cons ⟨h4,bnth h h4⟩ (.cons ⟨h5,bnth h h5⟩ (.cons ⟨h6,bnth h h6⟩ .nil))) (.cons ⟨g208,bname h g208,rfl⟩ (.cons ⟨g256,bname h g256,rfl⟩ (.cons ⟨g32,bname h g32,rfl⟩ .nil)))) (gcd0.lp _ _ _ _ _ _ _ _ hat)
 ·cases ht
def gce.ok (n m:Int):Bool:=decide (0≤n)&&decide (0≤m)
noncomputable def gce.lt (zb:Bool) (zs:ByteArray) (n m:Int) (nx:Nat):LT:= .got (gce.ok n m) (.exit 2) (gce.st zb zs (gI n m) 0 nx)
theorem gce.go {N:Nat→Prop} (zb:Bool) (zs:ByteArray) (nx:Nat):∀(k:Nat) (n m:Int),0≤n→0≤m→m<k→Lq Tryz.prog N (Ag Tryz.f118 2) (gce.st zb zs n m nx) (.exit 2) (gce.st zb zs (gI n m) 0 nx)
 |0,n,m,h,h',hk=>by omega
 | k +1,n,m,h,h',hk=>by
  by_cases h0:m=0
  ·subst h0
   have:=gce.stop1 (N:=N) zb zs n 0 nx rfl
   rw [HA,Int.gcd_zero_right,Int.natAbs_of_nonneg h]
   exact this
  ·have hr0:=Int.emod_nonneg n h0
   have hr1:=Int.emod_lt_of_pos n (show 0<m by omega)
   refine gce.step0 zb zs n m nx (Fh h0) (Fh h0) ?_
   have ih:=gce.go (N:=N) zb zs nx k m (n%m) h' hr0 (by omega)
   rw [Int.tmod_eq_emod_of_nonneg h]
   have hg:Int.gcd m (n%m)=Int.gcd n m:=by rw [Int.gcd_comm n]; exact Lw _ _
   rw [HA,hg,←HA] at ih
   exact ih
theorem gce.lp {N:Nat→Prop} (zb:Bool) (zs:ByteArray) (n m:Int) (nx:Nat) {x:X} {S':St} (h:(gce.lt zb zs n m nx).at=some (x,S')):Lq Tryz.prog N (Ag Tryz.f118 2) (gce.st zb zs n m nx) x S':=by
 obtain ⟨h1,rfl,rfl⟩:=Fk h
 simp only [gce.ok,Bool.and_eq_true,decide_eq_true_eq] at h1
 exact gce.go zb zs nx (m.toNat+1) n m h1.1 h1.2 (by omega)
noncomputable def gce.t:LSpec:=fun S=>match RX.nth S.tmps 4,RX.nth S.tmps 9,RX.nth S.tmps 10,RX.look S.heap 32 with
 | .pointer (some ⟨32,0,none⟩),.int .u64 n,.int .u64 m,some (.cs [Value.bool zb,Value.string zs] 24)=>bif Nat.beq S.tmps.length 65 then some (gce.lt zb zs n m S.nxt) else none
 |_,_,_,_=>none
theorem gce.lok {N:Nat→Prop} :LOKn Tryz.prog N (Ag Tryz.f118 2) (gce.t):=by
 refine GO fun S lt x S' ht hat=> ?_
 unfold gce.t at ht
 split at ht
 ·rename_i n m zb zs h4 h9 h10 g32
  cases hb:Nat.beq S.tmps.length 65 with
  |false=>rw [hb] at ht; cases ht
  | true=>
   rw [hb] at ht
   injection ht with ht
   subst ht
   have hb:=Nat.eq_of_beq_eq_true hb
   exact .enter (fun h=>Gc hb (.cons ⟨h4,bnth h h4⟩ (.cons ⟨h9,bnth h h9⟩ (.cons ⟨h10,bnth h h10⟩ .nil))) (.cons ⟨g32,bname h g32,rfl⟩ .nil)) (gce.lp _ _ _ _ _ hat)
 ·cases ht
end Go.Proofs.YtphlckkbihmlnaaGreatDoor.G
end
section
namespace Go.Proofs.YtphlckkbihmlnaaGreatDoor.G
set_option maxRecDepth 100000
open Go Go.Proofs RX
theorem rGcd.run (na:Bool) (sa:ByteArray) (nb:Bool) (sb:ByteArray):xfn Tryz.prog ⟨[(96,Valid.sp),(121,of.sp),(120,with.sp),(133,single.sp),(119,word.sp)],[],[]⟩ [(0,gcd0.t),(2,gce.t)] 10 Tryz.f118 [.agg ⟨[.bool na,.string sa]⟩,.agg ⟨[.bool nb,.string sb]⟩] []=
 let c0:=gq {xs:=dg (nd sa) (bv sa.data.toList),cx:=nd sa,ys:=dg (nd sb) (bv sb.data.toList),cy:=nd sb}
 let c2:=seg c0.xs 0 (tl c0.xs)
 let c1:=dg 2 (gI (nv c2) (nv (seg c0.ys 0 (tl c0.ys))))
 bif !vld na sa then some ((Value.agg ⟨[Value.bool false,Value.string (⟨#[]⟩:ByteArray)]⟩,[])) else bif !vld nb sb then some ((Value.agg ⟨[Value.bool false,Value.string (⟨#[]⟩:ByteArray)]⟩,[])) else bif sa.size.ble 8589934592 then bif sb.size.ble 8589934592 then bif gcd0.ok (tl (dg (nd sa) (bv sa.data.toList))) (tl (dg (nd sb) (bv sb.data.toList))) (dg (nd sa) (bv sa.data.toList)) (dg (nd sb) (bv sb.data.toList)) then bif ((tl c0.ys:Nat):Int)==0 then bif Dl 0 (tl c0.xs) c0.xs then some ((Value.agg ⟨[Value.bool (false&& !nv c2==0),Value.string (str (enc (nv c2)))]⟩,[])) else none else bif Dl 0 (tl c0.xs) c0.xs&&(tl c0.xs).ble 2 then bif Dl 0 (tl c0.ys) c0.ys&&(tl c0.ys).ble 2 then bif gce.ok (nv c2) (nv (seg c0.ys 0 (tl c0.ys))) then bif decide (0≤gI (nv c2) (nv (seg c0.ys 0 (tl c0.ys))))&&decide (gI (nv c2) (nv (seg c0.ys 0 (tl c0.ys)))<18446744073709551616) then bif Dl 0 (tl c1) c1 then some ((Value.agg ⟨[Value.bool (false&& !nv (seg c1 0 (tl c1))==0),Value.string (str (enc (nv (seg c1 0 (tl c1)))))]⟩,[])) else none else none else none else none else none else none else none else none:=by kernel_rfl
def rGcd.run0:=fun na sa nb sb h0=>((rGcd.run na sa nb sb).ct h0)
def rGcd.run1:=fun na sa nb sb h0 h1=>(((rGcd.run na sa nb sb).cf h0).ct h1)
def rGcd.run2:=fun na sa nb sb h0 h1 h2 h3 h4 h5 h6=>((((((((rGcd.run na sa nb sb).cf h0).cf h1).ct h2).ct h3).ct h4).ct h5).ct h6)
def rGcd.run3:=fun na sa nb sb h0 h1 h2 h3 h4 h5 h6 h7 h8 h9 h10=>((((((((((((rGcd.run na sa nb sb).cf h0).cf h1).ct h2).ct h3).ct h4).cf h5).ct h6).ct h7).ct h8).ct h9).ct h10)
noncomputable def Gcd.sp:HSpec
 |[.agg ⟨[.bool na,.string sa]⟩,.agg ⟨[.bool nb,.string sb]⟩],[]=>some (szM sa&&szM sb,iI (bif vld na sa&&vld nb sb then gI (vl na sa) (vl nb sb) else 0),[])
 |_,_=>none
theorem gI_vl (na nb:Bool) (sa sb:ByteArray):gI (vl na sa) (vl nb sb)=((Int.gcd (bv sa.data.toList) (bv sb.data.toList):Nat):Int):=by
 rw [HA]
 unfold vl
 cases na<;>cases nb<;>simp [Int.gcd_neg,Int.neg_gcd]
theorem Gcd.ok:SOK Tryz.prog 118 Gcd.sp:=by
 refine Q7 (N:=fun n=>n=0) (E:=⟨[(96,Valid.sp),(121,of.sp),(120,with.sp),(133,single.sp),(119,word.sp)],[],[]⟩) (L:=[(0,gcd0.t),(2,gce.t)]) ⟨Aa Valid.ok (Aa of.ok (Aa with.ok (Aa Mx.ok (Aa word.ok Ac)))),Ai,Ad,Ah⟩ 10 Tryz.func118 (by decide) rfl (HR rfl (Fj rfl gcd0.lok (Fj rfl gce.lok Ba))) fun vs bl v bl' h=> ?_
 unfold Gcd.sp at h
 split at h
 ·rename_i na sa nb sb
  simp only [Option.some.injEq,Prod.mk.injEq,Bool.and_eq_true] at h
  obtain ⟨⟨h1,h2⟩,rfl,rfl⟩:=h
  refine ⟨⟨?_,by simp [okV],clo_spec 8 _ rfl,As rfl⟩,rfl⟩
  cases va:vld na sa with
  |false=>exact (rGcd.run0 na sa nb sb (Fs va)).trans (by simp only [Bool.false_and,cond_false]; rw [GY])
  |true=>
  cases vb:vld nb sb with
  |false=>exact (rGcd.run1 na sa nb sb (Df va) (Fs vb)).trans (by simp only [Bool.and_false,cond_false]; rw [GY])
  |true=>
  have hsa:=Nat.le_of_ble_eq_true h1
  have hsb:=Nat.le_of_ble_eq_true h2
  have na_:nd sa≤1073741825:=by unfold nd; omega
  have nb_:nd sb≤1073741825:=by unfold nd; omega
  have a0:=Ep sa.data.toList
  have b0:=Ep sb.data.toList
  have a1:=Gr sa
  have b1:=Gr sb
  simp only [Bool.and_self,cond_true]
  rw [gI_vl]
  have n2:=rGcd.run2 na sa nb sb (Df va) (Df vb) (Ik h1) (Ik h2)
  have n3:=rGcd.run3 na sa nb sb (Df va) (Df vb) (Ik h1) (Ik h2)
  generalize bv sa.data.toList=A at*
  generalize bv sb.data.toList=B at*
  have ta:=Hc (dg (nd sa) A)
  have tb:=Hc (dg (nd sb) B)
  rw [Cx] at ta tb
  have hk:gcd0.ok (tl (dg (nd sa) A)) (tl (dg (nd sb) B)) (dg (nd sa) A) (dg (nd sb) B)=true:=by
   simp only [gcd0.ok,Bool.and_eq_true,Nat.ble_eq,Nat.beq_eq,Ha]
   exact ⟨GZ _ _,GZ _ _,trivial,trivial,by omega,by omega⟩
  have hq:(⟨dg (nd sa) A,nd sa,dg (nd sb) B,nd sb⟩:GQ).Ok:=⟨GZ _ _,GZ _ _,by show tl (dg (nd sa) A)≤_; omega,by show tl (dg (nd sb) B)≤_; omega⟩
  have hr:=GQ.go_ok ((nv (dg (nd sb) B)).toNat+1) ⟨dg (nd sa) A,nd sa,dg (nd sb) B,nd sb⟩ hq (by have:=Ea (GZ (nd sb) B); show nv (dg (nd sb) B)<_; omega)
  rw [←gq_eq ⟨dg (nd sa) A,nd sa,dg (nd sb) B,nd sb⟩] at hr
  replace n2:=n2 hk
  replace n3:=n3 hk
  have eg:Int.gcd (nv (gq ⟨dg (nd sa) A,nd sa,dg (nd sb) B,nd sb⟩).xs) (nv (gq ⟨dg (nd sa) A,nd sa,dg (nd sb) B,nd sb⟩).ys)=Int.gcd A B:=by
   rw [hr.2.2]; show Int.gcd (nv (dg (nd sa) A)) (nv (dg (nd sb) B))=_
   rw [Hd _ _ a0 a1,Hd _ _ b0 b1]
  obtain ⟨⟨rx,ry,rlx,rly⟩,hm,_⟩:=hr
  generalize gq ⟨dg (nd sa) A,nd sa,dg (nd sb) B,nd sb⟩=r at*
  rw [QV rx] at n2 n3
  rw [QV ry] at n3
  have ox:=KZ rx rlx
  have oy:=KZ ry rly
  have x0:=Ea rx
  have y0:=Ea ry
  have hm':¬2<tl r.ys∧(2<tl r.xs→¬0<tl r.ys):=by simpa [GQ.more] using hm
  by_cases hz:tl r.ys=0
  ·have hy:nv r.ys=0:=(Lg ry).1 hz
   refine (n2 (by rw [hz]; rfl) ox).trans ?_
   show some (iv false (nv r.xs),_)=_
   rw [Hn false x0,cond_false,←eg,hy,Int.gcd_zero_right,Int.natAbs_of_nonneg x0]
  ·have hyp:0<nv r.ys:=(PM ry).1 (by omega)
   have hlx:tl r.xs≤2:=by have:=hm'.2; omega
   have hly:tl r.ys≤2:=by omega
   have hg0:0≤gI (nv r.xs) (nv r.ys):=by rw [HA]; omega
   have hg1:gI (nv r.xs) (nv r.ys)≤nv r.ys:=by rw [HA]; exact Int.le_of_dvd hyp (Int.gcd_dvd_right _ _)
   have hlt:=MW ry
   have hpw:pw (tl r.ys)≤pw 2:=HK hly
   have e2:pw 2=18446744073709551616:=by decide
   have hbz:(((tl r.ys:Nat):Int)==0)=false:=by rw [beq_eq_false_iff_ne]; omega
   have key:=n3 hbz (by rw [ox,Bool.true_and]; exact Nat.ble_eq_true_of_le hlx) (by rw [oy,Bool.true_and]; exact Nat.ble_eq_true_of_le hly) (dtrue2 x0 y0) (dtrue2 hg0 (by omega)) (okc _ (by decide))
   refine key.trans ?_
   show some (iv false (nv (seg (dg 2 (gI (nv r.xs) (nv r.ys))) 0 (tl (dg 2 (gI (nv r.xs) (nv r.ys)))))),_)=_
   rw [nvc hg0 (by omega),Hn false hg0,cond_false,HA,eg]
 ·cases h
end Go.Proofs.YtphlckkbihmlnaaGreatDoor.G
end
section
namespace Go.Proofs.YtphlckkbihmlnaaGreatDoor.G
set_option maxRecDepth 100000
open Go Go.Proofs RX
theorem rCmp.run (na:Bool) (sa:ByteArray) (nb:Bool) (sb:ByteArray):xfn Tryz.prog ⟨[(108,Sub.sp),(97,Sign.sp)],[],[]⟩ [] 10 Tryz.f129 [.agg ⟨[.bool na,.string sa]⟩,.agg ⟨[.bool nb,.string sb]⟩] []=
 bif szOk sa&&szOk sb then some ((Value.int IntKind.i64 (sgn (bif vld (decide ((bif vld na sa&&vld nb sb then vl na sa-vl nb sb else 0)<0)) (str (enc (((bif vld na sa&&vld nb sb then vl na sa-vl nb sb else 0).natAbs:Nat):Int))) then vl (decide ((bif vld na sa&&vld nb sb then vl na sa-vl nb sb else 0)<0)) (str (enc (((bif vld na sa&&vld nb sb then vl na sa-vl nb sb else 0).natAbs:Nat):Int))) else 0)),[])) else none:=by kernel_rfl
def rCmp.run0:=fun na sa nb sb h0=>((rCmp.run na sa nb sb).ct h0)
def Cmp.sp:HSpec
 |[.agg ⟨[.bool na,.string sa]⟩,.agg ⟨[.bool nb,.string sb]⟩],[]=>some (szOk sa&&szOk sb,.int .i64 (sgn (bif vld na sa&&vld nb sb then vl na sa-vl nb sb else 0)),[])
 |_,_=>none
theorem Cmp.ok:SOK Tryz.prog 129 Cmp.sp:=by
 refine Cq (E:=⟨[(108,Sub.sp),(97,Sign.sp)],[],[]⟩) (L:=[]) ⟨Aa Sub.ok (Aa Sign.ok Ac),Ai,Ad,Ah⟩ 10 Tryz.func129 (by decide) rfl Bs fun vs bl v bl' h=> ?_
 unfold Cmp.sp at h
 split at h
 ·rename_i na sa nb sb
  simp only [Option.some.injEq,Prod.mk.injEq] at h
  obtain ⟨h1,rfl,rfl⟩:=h
  refine ⟨(rCmp.run0 na sa nb sb h1).trans ?_,by simp [okV],clo_spec 8 _ rfl,As rfl⟩
  rw [J6,cond_true,LQ]
 ·cases h
def GcdC.sp:HSpec
 |[.agg ⟨[.bool na,.string sa]⟩,.agg ⟨[.bool nb,.string sb]⟩],[]=>some (szM sa&&szM sb,iI (bif vld na sa&&vld nb sb then ((Int.gcd (vl na sa) (vl nb sb):Nat):Int) else 0),[])
 |_,_=>none
theorem GcdC.ok:SOK Tryz.prog 118 GcdC.sp:=by
 refine ⟨Gcd.ok.enter,fun vs bl v bl' hs=>Gcd.ok.run vs bl v bl' ?_⟩
 unfold GcdC.sp at hs
 split at hs
 ·rw [←hs]
  show some _=some _
  rw [HA]
 ·cases hs
end Go.Proofs.YtphlckkbihmlnaaGreatDoor.G
end
section
namespace Go.Proofs.YtphlckkbihmlnaaGreatDoor.G
set_option maxRecDepth 100000
open Go Go.Proofs RX
def dI (z:Int):Bool×ByteArray:=(decide (z<0),str (enc (z.natAbs:Int)))
def Cb (n:Bool) (s:ByteArray) (m:Bool) (t:ByteArray):Bool×ByteArray:=dI (bif vld n s&&vld m t then vl n s*vl m t else 0)
def Cb.pre (n:Bool) (s:ByteArray) (m:Bool) (t:ByteArray):Bool:=szM s&&szM t
theorem Cb.ok:SOK Tryz.prog 102 (Cb.sp Cb Cb.pre):=by
 refine ⟨Mul.ok.enter,fun vs bl v bl' hs=>Mul.ok.run vs bl v bl' ?_⟩
 unfold Cb.sp at hs
 split at hs
 ·rw [←hs]; rfl
 ·cases hs
def Dt (n:Bool) (s:ByteArray) (m:Bool) (t:ByteArray):Bool×ByteArray:=dI (bif vld n s&&vld m t then vl n s+vl m t else 0)
def Dt.pre (n:Bool) (s:ByteArray) (m:Bool) (t:ByteArray):Bool:=szOk s&&szOk t
theorem Dt.ok:SOK Tryz.prog 101 (Dt.sp Dt Dt.pre):=by
 refine ⟨Add.ok.enter,fun vs bl v bl' hs=>Add.ok.run vs bl v bl' ?_⟩
 unfold Dt.sp at hs
 split at hs
 ·rw [←hs]; rfl
 ·cases hs
def Fd (n:Bool) (s:ByteArray) (m:Bool) (t:ByteArray):Bool×ByteArray:=dI (bif vld n s&&vld m t then vl n s-vl m t else 0)
def Fd.pre (n:Bool) (s:ByteArray) (m:Bool) (t:ByteArray):Bool:=szOk s&&szOk t
theorem Fd.ok:SOK Tryz.prog 108 (Fd.sp Fd Fd.pre):=by
 refine ⟨Sub.ok.enter,fun vs bl v bl' hs=>Sub.ok.run vs bl v bl' ?_⟩
 unfold Fd.sp at hs
 split at hs
 ·rw [←hs]; rfl
 ·cases hs
def Fe (n:Bool) (s:ByteArray) (m:Bool) (t:ByteArray):Bool×ByteArray:=dI (bif vld n s&&vld m t then ((Int.gcd (vl n s) (vl m t):Nat):Int) else 0)
def Fe.pre (n:Bool) (s:ByteArray) (m:Bool) (t:ByteArray):Bool:=szM s&&szM t
theorem Fe.ok:SOK Tryz.prog 118 (Fe.sp Fe Fe.pre):=by
 refine ⟨GcdC.ok.enter,fun vs bl v bl' hs=>GcdC.ok.run vs bl v bl' ?_⟩
 unfold Fe.sp at hs
 split at hs
 ·rw [←hs]; rfl
 ·cases hs
def Ff (n:Bool) (s:ByteArray) (m:Bool) (t:ByteArray):Int:=sgn (bif vld n s&&vld m t then vl n s-vl m t else 0)
def Ff.pre (n:Bool) (s:ByteArray) (m:Bool) (t:ByteArray):Bool:=szOk s&&szOk t
theorem Ff.ok:SOK Tryz.prog 129 (Ff.sp Ff Ff.pre):=by
 refine ⟨Cmp.ok.enter,fun vs bl v bl' hs=>Cmp.ok.run vs bl v bl' ?_⟩
 unfold Ff.sp at hs
 split at hs
 ·rw [←hs]; rfl
 ·cases hs
def Cu (n:Int):Bool×ByteArray:=dI n
def Cu.pre (n:Int):Bool:=decide (-9223372036854775808≤n)&&decide (n≤9223372036854775807)
theorem Cu.ok:SOK Tryz.prog 99 (Cu.sp Cu Cu.pre):=by
 refine ⟨Of.ok.enter,fun vs bl v bl' hs=>Of.ok.run vs bl v bl' ?_⟩
 unfold Cu.sp at hs
 split at hs
 ·rw [←hs]; rfl
 ·cases hs
def Fo (n:Bool) (s:ByteArray):Bool:=vld n s
theorem Fo.ok:SOK Tryz.prog 96 (Fo.sp Fo):=by
 refine ⟨Valid.ok.enter,fun vs bl v bl' hs=>Valid.ok.run vs bl v bl' ?_⟩
 unfold Fo.sp at hs
 split at hs
 ·rw [←hs]; rfl
 ·cases hs
def Eh (n:Bool) (s:ByteArray):Int:=sgn (bif vld n s then vl n s else 0)
theorem Eh.ok:SOK Tryz.prog 97 (Eh.sp Eh):=by
 refine ⟨Sign.ok.enter,fun vs bl v bl' hs=>Sign.ok.run vs bl v bl' ?_⟩
 unfold Eh.sp at hs
 split at hs
 ·rw [←hs]; rfl
 ·cases hs
def Em (n:Bool) (s:ByteArray):Bool×ByteArray:=dI (bif vld n s then -vl n s else 0)
theorem Em.ok:SOK Tryz.prog 126 (Em.sp Em):=by
 refine ⟨Neg.ok.enter,fun vs bl v bl' hs=>Neg.ok.run vs bl v bl' ?_⟩
 unfold Em.sp at hs
 split at hs
 ·rw [←hs]; rfl
 ·cases hs
def dmI (n:Bool) (s:ByteArray) (m:Bool) (t:ByteArray):Int×Int×Int:=bif vld n s&&vld m t then (bif bv t.data.toList==0 then (0,0,10) else (fq (vl n s) (vl m t),fr (vl n s) (vl m t),0)) else (0,0,1)
def Ee (n:Bool) (s:ByteArray) (m:Bool) (t:ByteArray):Bool×ByteArray×Bool×ByteArray×Int:=
 ((dI (dmI n s m t).1).1,(dI (dmI n s m t).1).2,(dI (dmI n s m t).2.1).1,(dI (dmI n s m t).2.1).2,(dmI n s m t).2.2)
def Ee.pre (n:Bool) (s:ByteArray) (m:Bool) (t:ByteArray):Bool:=szM s&&szM t
theorem Ee.ok:SOK Tryz.prog 139 (Ee.sp Ee Ee.pre):=by
 refine ⟨DivMod.ok.enter,fun vs bl v bl' hs=>DivMod.ok.run vs bl v bl' ?_⟩
 unfold Ee.sp at hs
 split at hs
 ·rename_i n s m t
  rw [←hs]
  show some (_,dmV n s m t,_)=_
  unfold dmV Ee Ee.pre dmI
  cases vld n s&&vld m t with
  |false=>rfl
  | true=>
   simp only [cond_true]
   cases bv t.data.toList==0<;>rfl
 ·cases hs
end Go.Proofs.YtphlckkbihmlnaaGreatDoor.G
end
section
namespace Go.Proofs.YtphlckkbihmlnaaGreatDoor.G
set_option maxRecDepth 100000
open Go Go.Proofs RX
@[simp] theorem vld_dI (z:Int):vld (dI z).1 (dI z).2=true:=J6 z
@[simp] theorem Hq (z:Int):vl (dI z).1 (dI z).2=z:=LQ z
theorem Sn {n:Bool} {s:ByteArray} (h:vld n s=true):dI (vl n s)=(n,s):=by
 have:=iI_vl h
 unfold iI at this
 simp only [Value.agg.injEq,Array.mk.injEq,List.cons.injEq,Value.bool.injEq,Value.string.injEq,and_true] at this
 unfold dI
 rw [this.1,this.2]
theorem dI_inj {a b:Int} (h:dI a=dI b):a=b:=by rw [←Hq a,h,Hq]
theorem M0:dI 0=(false,(⟨#[]⟩:ByteArray)):=rfl
theorem GV (a b:Int):Cb (dI a).1 (dI a).2 (dI b).1 (dI b).2=dI (a*b):=by simp [Cb]
theorem IW (a b:Int):Dt (dI a).1 (dI a).2 (dI b).1 (dI b).2=dI (a+b):=by simp [Dt]
theorem My (a b:Int):Fd (dI a).1 (dI a).2 (dI b).1 (dI b).2=dI (a-b):=by simp [Fd]
theorem Mz (a b:Int):Fe (dI a).1 (dI a).2 (dI b).1 (dI b).2=dI ((Int.gcd a b:Nat):Int):=by simp [Fe]
theorem N3 (a b:Int):Ff (dI a).1 (dI a).2 (dI b).1 (dI b).2=sgn (a-b):=by simp [Ff]
theorem Ld (a:Int):Fo (dI a).1 (dI a).2=true:=by simp [Fo]
theorem Hb (a:Int):Eh (dI a).1 (dI a).2=sgn a:=by simp [Eh]
theorem IV (a:Int):Em (dI a).1 (dI a).2=dI (-a):=by simp [Em]
theorem bv_dI (z:Int):bv (dI z).2.data.toList=(z.natAbs:Int):=Pl (by omega)
theorem LO {a b:Int} (hb:b≠0):Ee (dI a).1 (dI a).2 (dI b).1 (dI b).2=((dI (fq a b)).1,(dI (fq a b)).2,(dI (fr a b)).1,(dI (fr a b)).2,0):=by
 have h:(bv (dI b).2.data.toList==0)=false:=by rw [bv_dI,beq_eq_false_iff_ne]; omega
 simp [Ee,dmI,h]
theorem Sc (z:Int):((dI z).2.toList==(⟨#[]⟩:ByteArray).toList)=(z==0):=by
 have h1:=HD (enc (z.natAbs:Int))
 rw [H0 (by omega)] at h1
 show ((str (enc (z.natAbs:Int))).toList==_)=_
 rw [h1]
 by_cases hz:z=0
 ·subst hz; rfl
 ·rw [Fu hz,Fu (by omega)]
theorem Kh (a b:Int):((dI a).1==(dI b).1&&(dI a).2.toList==(dI b).2.toList)=(a==b):=by
 by_cases h:a=b
 ·subst h; simp
 ·rw [Fu h]
  cases hc:((dI a).1==(dI b).1&&(dI a).2.toList==(dI b).2.toList) with
  |false=>rfl
  | true=>
   simp only [Bool.and_eq_true,beq_iff_eq] at hc
   have h2:(dI a).2=(dI b).2:=by
    have:((dI a).2==(dI b).2)=true:=by rw [J1,hc.2]; simp
    exact ByteArray.ext (eq_of_beq (show ((dI a).2.data==(dI b).2.data)=true from this))
   exact absurd (dI_inj (Prod.ext hc.1 h2)) h
def Bd (k:Nat) (z:Int):Prop:=(z.natAbs:Int)<p8 k
theorem Bd.mono {j k:Nat} {z:Int} (h:Bd j z) (hk:j≤k):Bd k z:=Int.lt_of_lt_of_le h (Gu hk)
theorem IN {k:Nat} {z:Int} (h:Bd k z):(dI z).2.size≤k:=Mj (by omega) h
theorem IX {k:Nat} {z:Int} (h:Bd k z) (hk:k≤4294967296):szM (dI z).2=true:=by
 have:=IN h
 simp only [szM,Nat.ble_eq]; omega
theorem Hy {k:Nat} {z:Int} (h:Bd k z) (hk:k≤8589934592):szOk (dI z).2=true:=by
 have:=IN h
 simp only [szOk,Nat.ble_eq]; omega
theorem Bd.zero (k:Nat):Bd k 0:=HO k
theorem Bd.one {k:Nat} (h:1≤k):Bd k 1:=(show Bd 1 1 from by unfold Bd; decide).mono h
theorem Bd.neg {k:Nat} {z:Int} (h:Bd k z):Bd k (-z):=by unfold Bd at h ⊢; rw [Int.natAbs_neg]; exact h
theorem Bd.mul {j k:Nat} {a b:Int} (ha:Bd j a) (hb:Bd k b):Bd (j+k) (a*b):=by
 unfold Bd at ha hb ⊢
 rw [Int.natAbs_mul,Int.natCast_mul,L5]
 have h1:=HO j
 have h2:=HO k
 have e1:(a.natAbs:Int)*b.natAbs≤(p8 j-1)*b.natAbs:=Int.mul_le_mul_of_nonneg_right (by omega) (by omega)
 have e2:(p8 j-1)*(b.natAbs:Int)≤(p8 j-1)*p8 k:=Int.mul_le_mul_of_nonneg_left (by omega) (by omega)
 have e3:(p8 j-1)*p8 k=p8 j*p8 k-p8 k:=by rw [Int.sub_mul,Int.one_mul]
 omega
theorem Bd.add {k:Nat} {a b:Int} (ha:Bd k a) (hb:Bd k b):Bd (k+1) (a+b):=by
 unfold Bd at ha hb ⊢
 rw [IJ]
 have:=HO k
 omega
theorem Bd.le {k:Nat} {a b:Int} (hb:Bd k b) (h:a.natAbs≤b.natAbs):Bd k a:=by
 unfold Bd at hb ⊢
 omega
end Go.Proofs.YtphlckkbihmlnaaGreatDoor.G
end
section
namespace Go.Proofs.YtphlckkbihmlnaaGreatDoor.G
set_option maxRecDepth 100000
open Go Go.Proofs RX
structure BigF where
 fM:Bool→ByteArray→Bool→ByteArray→(Bool×ByteArray)
 pM:Bool→ByteArray→Bool→ByteArray→Bool
 fA:Bool→ByteArray→Bool→ByteArray→(Bool×ByteArray)
 pA:Bool→ByteArray→Bool→ByteArray→Bool
 fO:Int→(Bool×ByteArray)
 pO:Int→Bool
structure PrS where
 (un0:Bool) (us0:ByteArray)
 (yn0:Bool) (ys0:ByteArray) (yn1:Bool) (ys1:ByteArray) (yn2:Bool) (ys2:ByteArray) (yn3:Bool) (ys3:ByteArray)
 (cn0:Bool) (cs0:ByteArray) (cn1:Bool) (cs1:ByteArray) (cn2:Bool) (cs2:ByteArray) (cn3:Bool) (cs3:ByteArray)
 (xn0:Bool) (xs0:ByteArray) (xn1:Bool) (xs1:ByteArray) (xn2:Bool) (xs2:ByteArray) (xn3:Bool) (xs3:ByteArray)
 (an0:Bool) (as0:ByteArray) (an1:Bool) (as1:ByteArray) (an2:Bool) (as2:ByteArray) (an3:Bool) (as3:ByteArray) (an4:Bool) (as4:ByteArray)
 (bn0:Bool) (bs0:ByteArray) (bn1:Bool) (bs1:ByteArray) (bn2:Bool) (bs2:ByteArray) (bn3:Bool) (bs3:ByteArray) (bn4:Bool) (bs4:ByteArray)
noncomputable abbrev BigF.env (F:BigF):Env:=⟨[(99,Cu.sp F.fO F.pO),(102,Cb.sp F.fM F.pM),(101,Dt.sp F.fA F.pA)],[],[]⟩
noncomputable abbrev pr.code:Code:=JJ (Ag Tryz.f100 0) 2
noncomputable abbrev pr.ex (F:BigF):=exec (R:=X×List Value×List (Option Blk)) Tryz.prog F.env [] (hs Tryz.prog F.env 5).lf (hs Tryz.prog F.env 5).cf pr.code
noncomputable abbrev pr.st (i j:Int) (s:PrS):St:=⟨gbuild [(2,.pointer (some ⟨0,0,none⟩)),(3,.pointer (some ⟨16,0,none⟩)),(4,.pointer (some ⟨32,0,none⟩)),(5,.pointer (some ⟨48,0,none⟩)),(6,.int .i64 i),(7,.pointer (some ⟨160,0,none⟩)),(12,.agg ⟨[.bool s.xn0,.string s.xs0,.bool s.xn1,.string s.xs1,.bool s.xn2,.string s.xs2,.bool s.xn3,.string s.xs3]⟩),(13,.int .i64 i),(18,.agg ⟨[.bool s.yn0,.string s.ys0,.bool s.yn1,.string s.ys1,.bool s.yn2,.string s.ys2,.bool s.yn3,.string s.ys3]⟩),(19,.int .i64 j)] 0 62,[(0,.cs [.bool s.an0,.string s.as0,.bool s.an1,.string s.as1,.bool s.an2,.string s.as2,.bool s.an3,.string s.as3,.bool s.an4,.string s.as4] 27),(16,.cs [.bool s.bn0,.string s.bs0,.bool s.bn1,.string s.bs1,.bool s.bn2,.string s.bs2,.bool s.bn3,.string s.bs3,.bool s.bn4,.string s.bs4] 27),(32,.cs [.bool false,.string ⟨#[]⟩,.bool false,.string ⟨#[]⟩,.bool false,.string ⟨#[]⟩,.bool false,.string ⟨#[]⟩,.bool false,.string ⟨#[]⟩] 27),(48,.cs [.bool s.cn0,.string s.cs0,.bool s.cn1,.string s.cs1,.bool s.cn2,.string s.cs2,.bool s.cn3,.string s.cs3] 25),(160,.cs [.bool s.un0,.string s.us0] 24)],256⟩
abbrev pr.pk:=pick 62 [2,3,4,5,6,7,12,13,18,19] [0,16,32,48,160]
abbrev pr.lk:=RX.lk [2,3,4,5,6,7,12,13,18,19] [0,16,32,48,160]
def prm (F:BigF) (k:Int) (un:Bool) (us:ByteArray) (yn:Bool) (ys:ByteArray):Bool×ByteArray:=F.fM (F.fO k).1 (F.fO k).2 (F.fM un us yn ys).1 (F.fM un us yn ys).2
def prc (F:BigF) (k:Int) (un:Bool) (us:ByteArray) (yn:Bool) (ys:ByteArray) (cn:Bool) (cs:ByteArray):Bool×ByteArray:=F.fA cn cs (prm F k un us yn ys).1 (prm F k un us yn ys).2
noncomputable abbrev prt (F:BigF) (k:Int) (un:Bool) (us:ByteArray) (yn:Bool) (ys:ByteArray) (cn:Bool) (cs:ByteArray) {A:Type} (skip go:Option A):Option A:=
 bif us.toList==(⟨#[]⟩:ByteArray).toList then skip else bif ys.toList==(⟨#[]⟩:ByteArray).toList then skip else
 bif F.pO k then bif F.pM un us yn ys then bif F.pM (F.fO k).1 (F.fO k).2 (F.fM un us yn ys).1 (F.fM un us yn ys).2 then
 bif F.pA cn cs (prm F k un us yn ys).1 (prm F k un us yn ys).2 then go else none else none else none else none
theorem pr.r00 (F:BigF) (s:PrS):pr.ex F (pr.st 0 0 s) pr.pk=prt F 1 s.un0 s.us0 s.yn0 s.ys0 s.cn0 s.cs0 (pr.lk .normal (pr.st 0 1 s)) (pr.lk .normal (pr.st 0 1 {s with cn0:=(prc F 1 s.un0 s.us0 s.yn0 s.ys0 s.cn0 s.cs0).1,cs0:=(prc F 1 s.un0 s.us0 s.yn0 s.ys0 s.cn0 s.cs0).2})):=by kernel_rfl
theorem pr.r01 (F:BigF) (s:PrS):pr.ex F (pr.st 0 1 s) pr.pk=prt F 1 s.un0 s.us0 s.yn1 s.ys1 s.cn1 s.cs1 (pr.lk .normal (pr.st 0 2 s)) (pr.lk .normal (pr.st 0 2 {s with cn1:=(prc F 1 s.un0 s.us0 s.yn1 s.ys1 s.cn1 s.cs1).1,cs1:=(prc F 1 s.un0 s.us0 s.yn1 s.ys1 s.cn1 s.cs1).2})):=by kernel_rfl
theorem pr.r02 (F:BigF) (s:PrS):pr.ex F (pr.st 0 2 s) pr.pk=prt F 1 s.un0 s.us0 s.yn2 s.ys2 s.cn2 s.cs2 (pr.lk .normal (pr.st 0 3 s)) (pr.lk .normal (pr.st 0 3 {s with cn2:=(prc F 1 s.un0 s.us0 s.yn2 s.ys2 s.cn2 s.cs2).1,cs2:=(prc F 1 s.un0 s.us0 s.yn2 s.ys2 s.cn2 s.cs2).2})):=by kernel_rfl
theorem pr.r03 (F:BigF) (s:PrS):pr.ex F (pr.st 0 3 s) pr.pk=prt F 1 s.un0 s.us0 s.yn3 s.ys3 s.cn3 s.cs3 (pr.lk .normal (pr.st 0 4 s)) (pr.lk .normal (pr.st 0 4 {s with cn3:=(prc F 1 s.un0 s.us0 s.yn3 s.ys3 s.cn3 s.cs3).1,cs3:=(prc F 1 s.un0 s.us0 s.yn3 s.ys3 s.cn3 s.cs3).2})):=by kernel_rfl
theorem pr.r04 (F:BigF) (s:PrS):pr.ex F (pr.st 0 4 s) pr.pk=pr.lk (.exit 2) (pr.st 0 4 s):=by kernel_rfl
theorem pr.r10 (F:BigF) (s:PrS):pr.ex F (pr.st 1 0 s) pr.pk=prt F 1 s.un0 s.us0 s.yn0 s.ys0 s.cn1 s.cs1 (pr.lk .normal (pr.st 1 1 s)) (pr.lk .normal (pr.st 1 1 {s with cn1:=(prc F 1 s.un0 s.us0 s.yn0 s.ys0 s.cn1 s.cs1).1,cs1:=(prc F 1 s.un0 s.us0 s.yn0 s.ys0 s.cn1 s.cs1).2})):=by kernel_rfl
theorem pr.r11 (F:BigF) (s:PrS):pr.ex F (pr.st 1 1 s) pr.pk=prt F 2 s.un0 s.us0 s.yn1 s.ys1 s.cn0 s.cs0 (pr.lk .normal (pr.st 1 2 s)) (pr.lk .normal (pr.st 1 2 {s with cn0:=(prc F 2 s.un0 s.us0 s.yn1 s.ys1 s.cn0 s.cs0).1,cs0:=(prc F 2 s.un0 s.us0 s.yn1 s.ys1 s.cn0 s.cs0).2})):=by kernel_rfl
theorem pr.r12 (F:BigF) (s:PrS):pr.ex F (pr.st 1 2 s) pr.pk=prt F 1 s.un0 s.us0 s.yn2 s.ys2 s.cn3 s.cs3 (pr.lk .normal (pr.st 1 3 s)) (pr.lk .normal (pr.st 1 3 {s with cn3:=(prc F 1 s.un0 s.us0 s.yn2 s.ys2 s.cn3 s.cs3).1,cs3:=(prc F 1 s.un0 s.us0 s.yn2 s.ys2 s.cn3 s.cs3).2})):=by kernel_rfl
theorem pr.r13 (F:BigF) (s:PrS):pr.ex F (pr.st 1 3 s) pr.pk=prt F 2 s.un0 s.us0 s.yn3 s.ys3 s.cn2 s.cs2 (pr.lk .normal (pr.st 1 4 s)) (pr.lk .normal (pr.st 1 4 {s with cn2:=(prc F 2 s.un0 s.us0 s.yn3 s.ys3 s.cn2 s.cs2).1,cs2:=(prc F 2 s.un0 s.us0 s.yn3 s.ys3 s.cn2 s.cs2).2})):=by kernel_rfl
theorem pr.r14 (F:BigF) (s:PrS):pr.ex F (pr.st 1 4 s) pr.pk=pr.lk (.exit 2) (pr.st 1 4 s):=by kernel_rfl
theorem pr.r20 (F:BigF) (s:PrS):pr.ex F (pr.st 2 0 s) pr.pk=prt F 1 s.un0 s.us0 s.yn0 s.ys0 s.cn2 s.cs2 (pr.lk .normal (pr.st 2 1 s)) (pr.lk .normal (pr.st 2 1 {s with cn2:=(prc F 1 s.un0 s.us0 s.yn0 s.ys0 s.cn2 s.cs2).1,cs2:=(prc F 1 s.un0 s.us0 s.yn0 s.ys0 s.cn2 s.cs2).2})):=by kernel_rfl
theorem pr.r21 (F:BigF) (s:PrS):pr.ex F (pr.st 2 1 s) pr.pk=prt F 1 s.un0 s.us0 s.yn1 s.ys1 s.cn3 s.cs3 (pr.lk .normal (pr.st 2 2 s)) (pr.lk .normal (pr.st 2 2 {s with cn3:=(prc F 1 s.un0 s.us0 s.yn1 s.ys1 s.cn3 s.cs3).1,cs3:=(prc F 1 s.un0 s.us0 s.yn1 s.ys1 s.cn3 s.cs3).2})):=by kernel_rfl
theorem pr.r22 (F:BigF) (s:PrS):pr.ex F (pr.st 2 2 s) pr.pk=prt F 3 s.un0 s.us0 s.yn2 s.ys2 s.cn0 s.cs0 (pr.lk .normal (pr.st 2 3 s)) (pr.lk .normal (pr.st 2 3 {s with cn0:=(prc F 3 s.un0 s.us0 s.yn2 s.ys2 s.cn0 s.cs0).1,cs0:=(prc F 3 s.un0 s.us0 s.yn2 s.ys2 s.cn0 s.cs0).2})):=by kernel_rfl
theorem pr.r23 (F:BigF) (s:PrS):pr.ex F (pr.st 2 3 s) pr.pk=prt F 3 s.un0 s.us0 s.yn3 s.ys3 s.cn1 s.cs1 (pr.lk .normal (pr.st 2 4 s)) (pr.lk .normal (pr.st 2 4 {s with cn1:=(prc F 3 s.un0 s.us0 s.yn3 s.ys3 s.cn1 s.cs1).1,cs1:=(prc F 3 s.un0 s.us0 s.yn3 s.ys3 s.cn1 s.cs1).2})):=by kernel_rfl
theorem pr.r24 (F:BigF) (s:PrS):pr.ex F (pr.st 2 4 s) pr.pk=pr.lk (.exit 2) (pr.st 2 4 s):=by kernel_rfl
theorem pr.r30 (F:BigF) (s:PrS):pr.ex F (pr.st 3 0 s) pr.pk=prt F 1 s.un0 s.us0 s.yn0 s.ys0 s.cn3 s.cs3 (pr.lk .normal (pr.st 3 1 s)) (pr.lk .normal (pr.st 3 1 {s with cn3:=(prc F 1 s.un0 s.us0 s.yn0 s.ys0 s.cn3 s.cs3).1,cs3:=(prc F 1 s.un0 s.us0 s.yn0 s.ys0 s.cn3 s.cs3).2})):=by kernel_rfl
theorem pr.r31 (F:BigF) (s:PrS):pr.ex F (pr.st 3 1 s) pr.pk=prt F 2 s.un0 s.us0 s.yn1 s.ys1 s.cn2 s.cs2 (pr.lk .normal (pr.st 3 2 s)) (pr.lk .normal (pr.st 3 2 {s with cn2:=(prc F 2 s.un0 s.us0 s.yn1 s.ys1 s.cn2 s.cs2).1,cs2:=(prc F 2 s.un0 s.us0 s.yn1 s.ys1 s.cn2 s.cs2).2})):=by kernel_rfl
theorem pr.r32 (F:BigF) (s:PrS):pr.ex F (pr.st 3 2 s) pr.pk=prt F 3 s.un0 s.us0 s.yn2 s.ys2 s.cn1 s.cs1 (pr.lk .normal (pr.st 3 3 s)) (pr.lk .normal (pr.st 3 3 {s with cn1:=(prc F 3 s.un0 s.us0 s.yn2 s.ys2 s.cn1 s.cs1).1,cs1:=(prc F 3 s.un0 s.us0 s.yn2 s.ys2 s.cn1 s.cs1).2})):=by kernel_rfl
theorem pr.r33 (F:BigF) (s:PrS):pr.ex F (pr.st 3 3 s) pr.pk=prt F 6 s.un0 s.us0 s.yn3 s.ys3 s.cn0 s.cs0 (pr.lk .normal (pr.st 3 4 s)) (pr.lk .normal (pr.st 3 4 {s with cn0:=(prc F 6 s.un0 s.us0 s.yn3 s.ys3 s.cn0 s.cs0).1,cs0:=(prc F 6 s.un0 s.us0 s.yn3 s.ys3 s.cn0 s.cs0).2})):=by kernel_rfl
theorem pr.r34 (F:BigF) (s:PrS):pr.ex F (pr.st 3 4 s) pr.pk=pr.lk (.exit 2) (pr.st 3 4 s):=by kernel_rfl
noncomputable def bigF:BigF:=⟨Cb,Cb.pre,Dt,Dt.pre,Cu,Cu.pre⟩
theorem GW:EnvOk Tryz.prog bigF.env:=⟨Aa Cu.ok (Aa Cb.ok (Aa Dt.ok Ac)),Ai,Ad,Ah⟩
def Few6 (k:Int):Prop:=k=1∨k=2∨k=3∨k=6
theorem HY {k:Int} (hk:Few6 k):Bd 1 k:=by rcases hk with rfl|rfl|rfl|rfl<;>(unfold Bd; decide)
theorem Fw {k:Int} (u y c:Int):prc bigF k (dI u).1 (dI u).2 (dI y).1 (dI y).2 (dI c).1 (dI c).2=dI (c+k*(u*y)):=by
 show Dt _ _ _ _=_
 have:prm bigF k (dI u).1 (dI u).2 (dI y).1 (dI y).2=dI (k*(u*y)):=by
  show Cb (dI k).1 (dI k).2 _ _=_
  rw [show bigF.fM (dI u).1 (dI u).2 (dI y).1 (dI y).2=dI (u*y) from GV u y,GV]
 rw [this,IW]
theorem HG {A:Type} {k:Int} (hk:Few6 k) {m:Nat} (hm:m≤500000000) {u y c:Int} (hu:Bd m u) (hy:Bd m y) (hc:Bd (2*m+8) c) (skip go:Option A) (h:c+k*(u*y)=c→go=skip):
  prt bigF k (dI u).1 (dI u).2 (dI y).1 (dI y).2 (dI c).1 (dI c).2 skip go=go:=by
 unfold prt
 rw [Sc,Sc]
 by_cases h0:u=0
 ·subst h0; exact (h (by rw [Int.zero_mul,Int.mul_zero,Int.add_zero])).symm
 by_cases h1:y=0
 ·subst h1
  rw [Fu h0]
  exact (h (by rw [Int.mul_zero,Int.mul_zero,Int.add_zero])).symm
 have huy:=hu.mul hy
 have hkb:Bd 1 k:=by rcases hk with rfl|rfl|rfl|rfl<;>(unfold Bd; decide)
 have e1:bigF.fM (dI u).1 (dI u).2 (dI y).1 (dI y).2=dI (u*y):=GV u y
 have e2:prm bigF k (dI u).1 (dI u).2 (dI y).1 (dI y).2=dI (k*(u*y)):=by
  show Cb (dI k).1 (dI k).2 _ _=_
  rw [e1,GV]
 have p1:bigF.pO k=true:=by rcases hk with rfl|rfl|rfl|rfl<;>rfl
 have p2:bigF.pM (dI u).1 (dI u).2 (dI y).1 (dI y).2=true:=by
  show (szM _&&szM _)=true
  rw [IX hu (by omega),IX hy (by omega)]; rfl
 have p3:bigF.pM (bigF.fO k).1 (bigF.fO k).2 (bigF.fM (dI u).1 (dI u).2 (dI y).1 (dI y).2).1 (bigF.fM (dI u).1 (dI u).2 (dI y).1 (dI y).2).2=true:=by
  rw [e1]
  show (szM (dI k).2&&szM _)=true
  rw [IX hkb (by omega),IX huy (by omega)]; rfl
 have p4:bigF.pA (dI c).1 (dI c).2 (prm bigF k (dI u).1 (dI u).2 (dI y).1 (dI y).2).1 (prm bigF k (dI u).1 (dI u).2 (dI y).1 (dI y).2).2=true:=by
  rw [e2]
  show (szOk _&&szOk _)=true
  rw [Hy hc (by omega),Hy (hkb.mul huy) (by omega)]; rfl
 rw [Fu h0,Fu h1,p1,p2,p3,p4]; rfl
structure PrZ where
 (u y0 y1 y2 y3 c0 c1 c2 c3:Int)
noncomputable def PrS.to (s:PrS) (z:PrZ):PrS:= {s with un0:=(dI z.u).1,us0:=(dI z.u).2,yn0:=(dI z.y0).1,ys0:=(dI z.y0).2,yn1:=(dI z.y1).1,ys1:=(dI z.y1).2,yn2:=(dI z.y2).1,ys2:=(dI z.y2).2,yn3:=(dI z.y3).1,ys3:=(dI z.y3).2,cn0:=(dI z.c0).1,cs0:=(dI z.c0).2,cn1:=(dI z.c1).1,cs1:=(dI z.c1).2,cn2:=(dI z.c2).1,cs2:=(dI z.c2).2,cn3:=(dI z.c3).1,cs3:=(dI z.c3).2}
structure PrZ.Ok (m k:Nat) (z:PrZ):Prop where
 hm:m≤500000000
 hk:k≤2*m+8
 u:Bd m z.u
 y:Bd m z.y0∧Bd m z.y1∧Bd m z.y2∧Bd m z.y3
 c:Bd k z.c0∧Bd k z.c1∧Bd k z.c2∧Bd k z.c3
theorem pr.s00 {N:Nat→Prop} (s:PrS) {m k:Nat} (z:PrZ) (h:z.Ok m k) {x:X} {S':St} (ih:Lq Tryz.prog N pr.code (pr.st 0 1 (s.to {z with c0:=z.c0+1*(z.u*z.y0)})) x S'):Lq Tryz.prog N pr.code (pr.st 0 0 (s.to z)) x S':=by
 refine .to (f:=5) GW Ba ((pr.r00 bigF (s.to z)).trans ((HG (k:=1) (.inl rfl) h.hm h.u h.y.1 (h.c.1.mono h.hk) _ _ fun e=> ?_).trans ?_)) ?_ ih
 ·show pr.lk .normal (pr.st 0 1 {s.to z with cn0:=(prc bigF 1 (dI z.u).1 (dI z.u).2 (dI z.y0).1 (dI z.y0).2 (dI z.c0).1 (dI z.c0).2).1,cs0:=(prc bigF 1 (dI z.u).1 (dI z.u).2 (dI z.y0).1 (dI z.y0).2 (dI z.c0).1 (dI z.c0).2).2})=_
  rw [Fw,e]; rfl
 ·show pr.lk .normal (pr.st 0 1 {s.to z with cn0:=(prc bigF 1 (dI z.u).1 (dI z.u).2 (dI z.y0).1 (dI z.y0).2 (dI z.c0).1 (dI z.c0).2).1,cs0:=(prc bigF 1 (dI z.u).1 (dI z.u).2 (dI z.y0).1 (dI z.y0).2 (dI z.c0).1 (dI z.c0).2).2})=_
  rw [Fw]; rfl
 ·rfl
theorem pr.s01 {N:Nat→Prop} (s:PrS) {m k:Nat} (z:PrZ) (h:z.Ok m k) {x:X} {S':St} (ih:Lq Tryz.prog N pr.code (pr.st 0 2 (s.to {z with c1:=z.c1+1*(z.u*z.y1)})) x S'):Lq Tryz.prog N pr.code (pr.st 0 1 (s.to z)) x S':=by
 refine .to (f:=5) GW Ba ((pr.r01 bigF (s.to z)).trans ((HG (k:=1) (.inl rfl) h.hm h.u h.y.2.1 (h.c.2.1.mono h.hk) _ _ fun e=> ?_).trans ?_)) ?_ ih
 ·show pr.lk .normal (pr.st 0 2 {s.to z with cn1:=(prc bigF 1 (dI z.u).1 (dI z.u).2 (dI z.y1).1 (dI z.y1).2 (dI z.c1).1 (dI z.c1).2).1,cs1:=(prc bigF 1 (dI z.u).1 (dI z.u).2 (dI z.y1).1 (dI z.y1).2 (dI z.c1).1 (dI z.c1).2).2})=_
  rw [Fw,e]; rfl
 ·show pr.lk .normal (pr.st 0 2 {s.to z with cn1:=(prc bigF 1 (dI z.u).1 (dI z.u).2 (dI z.y1).1 (dI z.y1).2 (dI z.c1).1 (dI z.c1).2).1,cs1:=(prc bigF 1 (dI z.u).1 (dI z.u).2 (dI z.y1).1 (dI z.y1).2 (dI z.c1).1 (dI z.c1).2).2})=_
  rw [Fw]; rfl
 ·rfl
theorem pr.s02 {N:Nat→Prop} (s:PrS) {m k:Nat} (z:PrZ) (h:z.Ok m k) {x:X} {S':St} (ih:Lq Tryz.prog N pr.code (pr.st 0 3 (s.to {z with c2:=z.c2+1*(z.u*z.y2)})) x S'):Lq Tryz.prog N pr.code (pr.st 0 2 (s.to z)) x S':=by
 refine .to (f:=5) GW Ba ((pr.r02 bigF (s.to z)).trans ((HG (k:=1) (.inl rfl) h.hm h.u h.y.2.2.1 (h.c.2.2.1.mono h.hk) _ _ fun e=> ?_).trans ?_)) ?_ ih
 ·show pr.lk .normal (pr.st 0 3 {s.to z with cn2:=(prc bigF 1 (dI z.u).1 (dI z.u).2 (dI z.y2).1 (dI z.y2).2 (dI z.c2).1 (dI z.c2).2).1,cs2:=(prc bigF 1 (dI z.u).1 (dI z.u).2 (dI z.y2).1 (dI z.y2).2 (dI z.c2).1 (dI z.c2).2).2})=_
  rw [Fw,e]; rfl
 ·show pr.lk .normal (pr.st 0 3 {s.to z with cn2:=(prc bigF 1 (dI z.u).1 (dI z.u).2 (dI z.y2).1 (dI z.y2).2 (dI z.c2).1 (dI z.c2).2).1,cs2:=(prc bigF 1 (dI z.u).1 (dI z.u).2 (dI z.y2).1 (dI z.y2).2 (dI z.c2).1 (dI z.c2).2).2})=_
  rw [Fw]; rfl
 ·rfl
theorem pr.s03 {N:Nat→Prop} (s:PrS) {m k:Nat} (z:PrZ) (h:z.Ok m k) {x:X} {S':St} (ih:Lq Tryz.prog N pr.code (pr.st 0 4 (s.to {z with c3:=z.c3+1*(z.u*z.y3)})) x S'):Lq Tryz.prog N pr.code (pr.st 0 3 (s.to z)) x S':=by
 refine .to (f:=5) GW Ba ((pr.r03 bigF (s.to z)).trans ((HG (k:=1) (.inl rfl) h.hm h.u h.y.2.2.2 (h.c.2.2.2.mono h.hk) _ _ fun e=> ?_).trans ?_)) ?_ ih
 ·show pr.lk .normal (pr.st 0 4 {s.to z with cn3:=(prc bigF 1 (dI z.u).1 (dI z.u).2 (dI z.y3).1 (dI z.y3).2 (dI z.c3).1 (dI z.c3).2).1,cs3:=(prc bigF 1 (dI z.u).1 (dI z.u).2 (dI z.y3).1 (dI z.y3).2 (dI z.c3).1 (dI z.c3).2).2})=_
  rw [Fw,e]; rfl
 ·show pr.lk .normal (pr.st 0 4 {s.to z with cn3:=(prc bigF 1 (dI z.u).1 (dI z.u).2 (dI z.y3).1 (dI z.y3).2 (dI z.c3).1 (dI z.c3).2).1,cs3:=(prc bigF 1 (dI z.u).1 (dI z.u).2 (dI z.y3).1 (dI z.y3).2 (dI z.c3).1 (dI z.c3).2).2})=_
  rw [Fw]; rfl
 ·rfl
theorem pr.s10 {N:Nat→Prop} (s:PrS) {m k:Nat} (z:PrZ) (h:z.Ok m k) {x:X} {S':St} (ih:Lq Tryz.prog N pr.code (pr.st 1 1 (s.to {z with c1:=z.c1+1*(z.u*z.y0)})) x S'):Lq Tryz.prog N pr.code (pr.st 1 0 (s.to z)) x S':=by
 refine .to (f:=5) GW Ba ((pr.r10 bigF (s.to z)).trans ((HG (k:=1) (.inl rfl) h.hm h.u h.y.1 (h.c.2.1.mono h.hk) _ _ fun e=> ?_).trans ?_)) ?_ ih
 ·show pr.lk .normal (pr.st 1 1 {s.to z with cn1:=(prc bigF 1 (dI z.u).1 (dI z.u).2 (dI z.y0).1 (dI z.y0).2 (dI z.c1).1 (dI z.c1).2).1,cs1:=(prc bigF 1 (dI z.u).1 (dI z.u).2 (dI z.y0).1 (dI z.y0).2 (dI z.c1).1 (dI z.c1).2).2})=_
  rw [Fw,e]; rfl
 ·show pr.lk .normal (pr.st 1 1 {s.to z with cn1:=(prc bigF 1 (dI z.u).1 (dI z.u).2 (dI z.y0).1 (dI z.y0).2 (dI z.c1).1 (dI z.c1).2).1,cs1:=(prc bigF 1 (dI z.u).1 (dI z.u).2 (dI z.y0).1 (dI z.y0).2 (dI z.c1).1 (dI z.c1).2).2})=_
  rw [Fw]; rfl
 ·rfl
theorem pr.s11 {N:Nat→Prop} (s:PrS) {m k:Nat} (z:PrZ) (h:z.Ok m k) {x:X} {S':St} (ih:Lq Tryz.prog N pr.code (pr.st 1 2 (s.to {z with c0:=z.c0+2*(z.u*z.y1)})) x S'):Lq Tryz.prog N pr.code (pr.st 1 1 (s.to z)) x S':=by
 refine .to (f:=5) GW Ba ((pr.r11 bigF (s.to z)).trans ((HG (k:=2) (.inr (.inl rfl)) h.hm h.u h.y.2.1 (h.c.1.mono h.hk) _ _ fun e=> ?_).trans ?_)) ?_ ih
 ·show pr.lk .normal (pr.st 1 2 {s.to z with cn0:=(prc bigF 2 (dI z.u).1 (dI z.u).2 (dI z.y1).1 (dI z.y1).2 (dI z.c0).1 (dI z.c0).2).1,cs0:=(prc bigF 2 (dI z.u).1 (dI z.u).2 (dI z.y1).1 (dI z.y1).2 (dI z.c0).1 (dI z.c0).2).2})=_
  rw [Fw,e]; rfl
 ·show pr.lk .normal (pr.st 1 2 {s.to z with cn0:=(prc bigF 2 (dI z.u).1 (dI z.u).2 (dI z.y1).1 (dI z.y1).2 (dI z.c0).1 (dI z.c0).2).1,cs0:=(prc bigF 2 (dI z.u).1 (dI z.u).2 (dI z.y1).1 (dI z.y1).2 (dI z.c0).1 (dI z.c0).2).2})=_
  rw [Fw]; rfl
 ·rfl
theorem pr.s12 {N:Nat→Prop} (s:PrS) {m k:Nat} (z:PrZ) (h:z.Ok m k) {x:X} {S':St} (ih:Lq Tryz.prog N pr.code (pr.st 1 3 (s.to {z with c3:=z.c3+1*(z.u*z.y2)})) x S'):Lq Tryz.prog N pr.code (pr.st 1 2 (s.to z)) x S':=by
 refine .to (f:=5) GW Ba ((pr.r12 bigF (s.to z)).trans ((HG (k:=1) (.inl rfl) h.hm h.u h.y.2.2.1 (h.c.2.2.2.mono h.hk) _ _ fun e=> ?_).trans ?_)) ?_ ih
 ·show pr.lk .normal (pr.st 1 3 {s.to z with cn3:=(prc bigF 1 (dI z.u).1 (dI z.u).2 (dI z.y2).1 (dI z.y2).2 (dI z.c3).1 (dI z.c3).2).1,cs3:=(prc bigF 1 (dI z.u).1 (dI z.u).2 (dI z.y2).1 (dI z.y2).2 (dI z.c3).1 (dI z.c3).2).2})=_
  rw [Fw,e]; rfl
 ·show pr.lk .normal (pr.st 1 3 {s.to z with cn3:=(prc bigF 1 (dI z.u).1 (dI z.u).2 (dI z.y2).1 (dI z.y2).2 (dI z.c3).1 (dI z.c3).2).1,cs3:=(prc bigF 1 (dI z.u).1 (dI z.u).2 (dI z.y2).1 (dI z.y2).2 (dI z.c3).1 (dI z.c3).2).2})=_
  rw [Fw]; rfl
 ·rfl
theorem pr.s13 {N:Nat→Prop} (s:PrS) {m k:Nat} (z:PrZ) (h:z.Ok m k) {x:X} {S':St} (ih:Lq Tryz.prog N pr.code (pr.st 1 4 (s.to {z with c2:=z.c2+2*(z.u*z.y3)})) x S'):Lq Tryz.prog N pr.code (pr.st 1 3 (s.to z)) x S':=by
 refine .to (f:=5) GW Ba ((pr.r13 bigF (s.to z)).trans ((HG (k:=2) (.inr (.inl rfl)) h.hm h.u h.y.2.2.2 (h.c.2.2.1.mono h.hk) _ _ fun e=> ?_).trans ?_)) ?_ ih
 ·show pr.lk .normal (pr.st 1 4 {s.to z with cn2:=(prc bigF 2 (dI z.u).1 (dI z.u).2 (dI z.y3).1 (dI z.y3).2 (dI z.c2).1 (dI z.c2).2).1,cs2:=(prc bigF 2 (dI z.u).1 (dI z.u).2 (dI z.y3).1 (dI z.y3).2 (dI z.c2).1 (dI z.c2).2).2})=_
  rw [Fw,e]; rfl
 ·show pr.lk .normal (pr.st 1 4 {s.to z with cn2:=(prc bigF 2 (dI z.u).1 (dI z.u).2 (dI z.y3).1 (dI z.y3).2 (dI z.c2).1 (dI z.c2).2).1,cs2:=(prc bigF 2 (dI z.u).1 (dI z.u).2 (dI z.y3).1 (dI z.y3).2 (dI z.c2).1 (dI z.c2).2).2})=_
  rw [Fw]; rfl
 ·rfl
theorem pr.s20 {N:Nat→Prop} (s:PrS) {m k:Nat} (z:PrZ) (h:z.Ok m k) {x:X} {S':St} (ih:Lq Tryz.prog N pr.code (pr.st 2 1 (s.to {z with c2:=z.c2+1*(z.u*z.y0)})) x S'):Lq Tryz.prog N pr.code (pr.st 2 0 (s.to z)) x S':=by
 refine .to (f:=5) GW Ba ((pr.r20 bigF (s.to z)).trans ((HG (k:=1) (.inl rfl) h.hm h.u h.y.1 (h.c.2.2.1.mono h.hk) _ _ fun e=> ?_).trans ?_)) ?_ ih
 ·show pr.lk .normal (pr.st 2 1 {s.to z with cn2:=(prc bigF 1 (dI z.u).1 (dI z.u).2 (dI z.y0).1 (dI z.y0).2 (dI z.c2).1 (dI z.c2).2).1,cs2:=(prc bigF 1 (dI z.u).1 (dI z.u).2 (dI z.y0).1 (dI z.y0).2 (dI z.c2).1 (dI z.c2).2).2})=_
  rw [Fw,e]; rfl
 ·show pr.lk .normal (pr.st 2 1 {s.to z with cn2:=(prc bigF 1 (dI z.u).1 (dI z.u).2 (dI z.y0).1 (dI z.y0).2 (dI z.c2).1 (dI z.c2).2).1,cs2:=(prc bigF 1 (dI z.u).1 (dI z.u).2 (dI z.y0).1 (dI z.y0).2 (dI z.c2).1 (dI z.c2).2).2})=_
  rw [Fw]; rfl
 ·rfl
theorem pr.s21 {N:Nat→Prop} (s:PrS) {m k:Nat} (z:PrZ) (h:z.Ok m k) {x:X} {S':St} (ih:Lq Tryz.prog N pr.code (pr.st 2 2 (s.to {z with c3:=z.c3+1*(z.u*z.y1)})) x S'):Lq Tryz.prog N pr.code (pr.st 2 1 (s.to z)) x S':=by
 refine .to (f:=5) GW Ba ((pr.r21 bigF (s.to z)).trans ((HG (k:=1) (.inl rfl) h.hm h.u h.y.2.1 (h.c.2.2.2.mono h.hk) _ _ fun e=> ?_).trans ?_)) ?_ ih
 ·show pr.lk .normal (pr.st 2 2 {s.to z with cn3:=(prc bigF 1 (dI z.u).1 (dI z.u).2 (dI z.y1).1 (dI z.y1).2 (dI z.c3).1 (dI z.c3).2).1,cs3:=(prc bigF 1 (dI z.u).1 (dI z.u).2 (dI z.y1).1 (dI z.y1).2 (dI z.c3).1 (dI z.c3).2).2})=_
  rw [Fw,e]; rfl
 ·show pr.lk .normal (pr.st 2 2 {s.to z with cn3:=(prc bigF 1 (dI z.u).1 (dI z.u).2 (dI z.y1).1 (dI z.y1).2 (dI z.c3).1 (dI z.c3).2).1,cs3:=(prc bigF 1 (dI z.u).1 (dI z.u).2 (dI z.y1).1 (dI z.y1).2 (dI z.c3).1 (dI z.c3).2).2})=_
  rw [Fw]; rfl
 ·rfl
theorem pr.s22 {N:Nat→Prop} (s:PrS) {m k:Nat} (z:PrZ) (h:z.Ok m k) {x:X} {S':St} (ih:Lq Tryz.prog N pr.code (pr.st 2 3 (s.to {z with c0:=z.c0+3*(z.u*z.y2)})) x S'):Lq Tryz.prog N pr.code (pr.st 2 2 (s.to z)) x S':=by
 refine .to (f:=5) GW Ba ((pr.r22 bigF (s.to z)).trans ((HG (k:=3) (.inr (.inr (.inl rfl))) h.hm h.u h.y.2.2.1 (h.c.1.mono h.hk) _ _ fun e=> ?_).trans ?_)) ?_ ih
 ·show pr.lk .normal (pr.st 2 3 {s.to z with cn0:=(prc bigF 3 (dI z.u).1 (dI z.u).2 (dI z.y2).1 (dI z.y2).2 (dI z.c0).1 (dI z.c0).2).1,cs0:=(prc bigF 3 (dI z.u).1 (dI z.u).2 (dI z.y2).1 (dI z.y2).2 (dI z.c0).1 (dI z.c0).2).2})=_
  rw [Fw,e]; rfl
 ·show pr.lk .normal (pr.st 2 3 {s.to z with cn0:=(prc bigF 3 (dI z.u).1 (dI z.u).2 (dI z.y2).1 (dI z.y2).2 (dI z.c0).1 (dI z.c0).2).1,cs0:=(prc bigF 3 (dI z.u).1 (dI z.u).2 (dI z.y2).1 (dI z.y2).2 (dI z.c0).1 (dI z.c0).2).2})=_
  rw [Fw]; rfl
 ·rfl
theorem pr.s23 {N:Nat→Prop} (s:PrS) {m k:Nat} (z:PrZ) (h:z.Ok m k) {x:X} {S':St} (ih:Lq Tryz.prog N pr.code (pr.st 2 4 (s.to {z with c1:=z.c1+3*(z.u*z.y3)})) x S'):Lq Tryz.prog N pr.code (pr.st 2 3 (s.to z)) x S':=by
 refine .to (f:=5) GW Ba ((pr.r23 bigF (s.to z)).trans ((HG (k:=3) (.inr (.inr (.inl rfl))) h.hm h.u h.y.2.2.2 (h.c.2.1.mono h.hk) _ _ fun e=> ?_).trans ?_)) ?_ ih
 ·show pr.lk .normal (pr.st 2 4 {s.to z with cn1:=(prc bigF 3 (dI z.u).1 (dI z.u).2 (dI z.y3).1 (dI z.y3).2 (dI z.c1).1 (dI z.c1).2).1,cs1:=(prc bigF 3 (dI z.u).1 (dI z.u).2 (dI z.y3).1 (dI z.y3).2 (dI z.c1).1 (dI z.c1).2).2})=_
  rw [Fw,e]; rfl
 ·show pr.lk .normal (pr.st 2 4 {s.to z with cn1:=(prc bigF 3 (dI z.u).1 (dI z.u).2 (dI z.y3).1 (dI z.y3).2 (dI z.c1).1 (dI z.c1).2).1,cs1:=(prc bigF 3 (dI z.u).1 (dI z.u).2 (dI z.y3).1 (dI z.y3).2 (dI z.c1).1 (dI z.c1).2).2})=_
  rw [Fw]; rfl
 ·rfl
theorem pr.s30 {N:Nat→Prop} (s:PrS) {m k:Nat} (z:PrZ) (h:z.Ok m k) {x:X} {S':St} (ih:Lq Tryz.prog N pr.code (pr.st 3 1 (s.to {z with c3:=z.c3+1*(z.u*z.y0)})) x S'):Lq Tryz.prog N pr.code (pr.st 3 0 (s.to z)) x S':=by
 refine .to (f:=5) GW Ba ((pr.r30 bigF (s.to z)).trans ((HG (k:=1) (.inl rfl) h.hm h.u h.y.1 (h.c.2.2.2.mono h.hk) _ _ fun e=> ?_).trans ?_)) ?_ ih
 ·show pr.lk .normal (pr.st 3 1 {s.to z with cn3:=(prc bigF 1 (dI z.u).1 (dI z.u).2 (dI z.y0).1 (dI z.y0).2 (dI z.c3).1 (dI z.c3).2).1,cs3:=(prc bigF 1 (dI z.u).1 (dI z.u).2 (dI z.y0).1 (dI z.y0).2 (dI z.c3).1 (dI z.c3).2).2})=_
  rw [Fw,e]; rfl
 ·show pr.lk .normal (pr.st 3 1 {s.to z with cn3:=(prc bigF 1 (dI z.u).1 (dI z.u).2 (dI z.y0).1 (dI z.y0).2 (dI z.c3).1 (dI z.c3).2).1,cs3:=(prc bigF 1 (dI z.u).1 (dI z.u).2 (dI z.y0).1 (dI z.y0).2 (dI z.c3).1 (dI z.c3).2).2})=_
  rw [Fw]; rfl
 ·rfl
theorem pr.s31 {N:Nat→Prop} (s:PrS) {m k:Nat} (z:PrZ) (h:z.Ok m k) {x:X} {S':St} (ih:Lq Tryz.prog N pr.code (pr.st 3 2 (s.to {z with c2:=z.c2+2*(z.u*z.y1)})) x S'):Lq Tryz.prog N pr.code (pr.st 3 1 (s.to z)) x S':=by
 refine .to (f:=5) GW Ba ((pr.r31 bigF (s.to z)).trans ((HG (k:=2) (.inr (.inl rfl)) h.hm h.u h.y.2.1 (h.c.2.2.1.mono h.hk) _ _ fun e=> ?_).trans ?_)) ?_ ih
 ·show pr.lk .normal (pr.st 3 2 {s.to z with cn2:=(prc bigF 2 (dI z.u).1 (dI z.u).2 (dI z.y1).1 (dI z.y1).2 (dI z.c2).1 (dI z.c2).2).1,cs2:=(prc bigF 2 (dI z.u).1 (dI z.u).2 (dI z.y1).1 (dI z.y1).2 (dI z.c2).1 (dI z.c2).2).2})=_
  rw [Fw,e]; rfl
 ·show pr.lk .normal (pr.st 3 2 {s.to z with cn2:=(prc bigF 2 (dI z.u).1 (dI z.u).2 (dI z.y1).1 (dI z.y1).2 (dI z.c2).1 (dI z.c2).2).1,cs2:=(prc bigF 2 (dI z.u).1 (dI z.u).2 (dI z.y1).1 (dI z.y1).2 (dI z.c2).1 (dI z.c2).2).2})=_
  rw [Fw]; rfl
 ·rfl
theorem pr.s32 {N:Nat→Prop} (s:PrS) {m k:Nat} (z:PrZ) (h:z.Ok m k) {x:X} {S':St} (ih:Lq Tryz.prog N pr.code (pr.st 3 3 (s.to {z with c1:=z.c1+3*(z.u*z.y2)})) x S'):Lq Tryz.prog N pr.code (pr.st 3 2 (s.to z)) x S':=by
 refine .to (f:=5) GW Ba ((pr.r32 bigF (s.to z)).trans ((HG (k:=3) (.inr (.inr (.inl rfl))) h.hm h.u h.y.2.2.1 (h.c.2.1.mono h.hk) _ _ fun e=> ?_).trans ?_)) ?_ ih
 ·show pr.lk .normal (pr.st 3 3 {s.to z with cn1:=(prc bigF 3 (dI z.u).1 (dI z.u).2 (dI z.y2).1 (dI z.y2).2 (dI z.c1).1 (dI z.c1).2).1,cs1:=(prc bigF 3 (dI z.u).1 (dI z.u).2 (dI z.y2).1 (dI z.y2).2 (dI z.c1).1 (dI z.c1).2).2})=_
  rw [Fw,e]; rfl
 ·show pr.lk .normal (pr.st 3 3 {s.to z with cn1:=(prc bigF 3 (dI z.u).1 (dI z.u).2 (dI z.y2).1 (dI z.y2).2 (dI z.c1).1 (dI z.c1).2).1,cs1:=(prc bigF 3 (dI z.u).1 (dI z.u).2 (dI z.y2).1 (dI z.y2).2 (dI z.c1).1 (dI z.c1).2).2})=_
  rw [Fw]; rfl
 ·rfl
theorem pr.s33 {N:Nat→Prop} (s:PrS) {m k:Nat} (z:PrZ) (h:z.Ok m k) {x:X} {S':St} (ih:Lq Tryz.prog N pr.code (pr.st 3 4 (s.to {z with c0:=z.c0+6*(z.u*z.y3)})) x S'):Lq Tryz.prog N pr.code (pr.st 3 3 (s.to z)) x S':=by
 refine .to (f:=5) GW Ba ((pr.r33 bigF (s.to z)).trans ((HG (k:=6) (.inr (.inr (.inr rfl))) h.hm h.u h.y.2.2.2 (h.c.1.mono h.hk) _ _ fun e=> ?_).trans ?_)) ?_ ih
 ·show pr.lk .normal (pr.st 3 4 {s.to z with cn0:=(prc bigF 6 (dI z.u).1 (dI z.u).2 (dI z.y3).1 (dI z.y3).2 (dI z.c0).1 (dI z.c0).2).1,cs0:=(prc bigF 6 (dI z.u).1 (dI z.u).2 (dI z.y3).1 (dI z.y3).2 (dI z.c0).1 (dI z.c0).2).2})=_
  rw [Fw,e]; rfl
 ·show pr.lk .normal (pr.st 3 4 {s.to z with cn0:=(prc bigF 6 (dI z.u).1 (dI z.u).2 (dI z.y3).1 (dI z.y3).2 (dI z.c0).1 (dI z.c0).2).1,cs0:=(prc bigF 6 (dI z.u).1 (dI z.u).2 (dI z.y3).1 (dI z.y3).2 (dI z.c0).1 (dI z.c0).2).2})=_
  rw [Fw]; rfl
 ·rfl
theorem QT {m k:Nat} {z:PrZ} {c:Int} (h:z.Ok m k) (hc:Bd k c):PrZ.Ok m k {z with c0:=c} :=⟨h.hm,h.hk,h.u,h.y,hc,h.c.2.1,h.c.2.2.1,h.c.2.2.2⟩
theorem QS {m k:Nat} {z:PrZ} {c:Int} (h:z.Ok m k) (hc:Bd k c):PrZ.Ok m k {z with c1:=c} :=⟨h.hm,h.hk,h.u,h.y,h.c.1,hc,h.c.2.2.1,h.c.2.2.2⟩
theorem QR {m k:Nat} {z:PrZ} {c:Int} (h:z.Ok m k) (hc:Bd k c):PrZ.Ok m k {z with c2:=c} :=⟨h.hm,h.hk,h.u,h.y,h.c.1,h.c.2.1,hc,h.c.2.2.2⟩
theorem QQ {m k:Nat} {z:PrZ} {c:Int} (h:z.Ok m k) (hc:Bd k c):PrZ.Ok m k {z with c3:=c} :=⟨h.hm,h.hk,h.u,h.y,h.c.1,h.c.2.1,h.c.2.2.1,hc⟩
def PrZ.row0 (z:PrZ):PrZ:= {z with c0:=z.c0+1*(z.u*z.y0),c1:=z.c1+1*(z.u*z.y1),c2:=z.c2+1*(z.u*z.y2),c3:=z.c3+1*(z.u*z.y3)}
theorem pr.w0 {N:Nat→Prop} (s:PrS) {m k:Nat} (z:PrZ) (h:z.Ok m k) (hk:k+1≤2*m+8) (h2:2*m+2≤k+1):Lq Tryz.prog N pr.code (pr.st 0 0 (s.to z)) (.exit 2) (pr.st 0 4 (s.to z.row0)):=by
 have ad:∀ {c q y:Int},Bd k c→Few6 q→Bd m y→Bd (k+1) (c+q*(z.u*y)):=fun hc hq hy=>by
  have hq1:Bd 1 _:=HY hq
  have:=(hc.mono (show k≤k from Nat.le_refl _)).add ((hq1.mul (h.u.mul hy)).mono (show 1+(m+m)≤k by omega))
  exact this
 have up0:z.Ok m (k+1):=⟨h.hm,hk,h.u,h.y,h.c.1.mono (by omega),h.c.2.1.mono (by omega),h.c.2.2.1.mono (by omega),h.c.2.2.2.mono (by omega)⟩
 refine pr.s00 s _ up0 ?_
 have up1:=QT up0 (ad h.c.1 (.inl rfl) h.y.1)
 refine pr.s01 s _ up1 ?_
 have up2:=QS up1 (ad h.c.2.1 (.inl rfl) h.y.2.1)
 refine pr.s02 s _ up2 ?_
 have up3:=QR up2 (ad h.c.2.2.1 (.inl rfl) h.y.2.2.1)
 refine pr.s03 s _ up3 ?_
 have up4:=QQ up3 (ad h.c.2.2.2 (.inl rfl) h.y.2.2.2)
 exact .end (f:=5) GW Ba (pr.r04 bigF _) (fun q=>by cases q) rfl
def PrZ.row1 (z:PrZ):PrZ:= {z with c0:=z.c0+2*(z.u*z.y1),c1:=z.c1+1*(z.u*z.y0),c2:=z.c2+2*(z.u*z.y3),c3:=z.c3+1*(z.u*z.y2)}
theorem pr.w1 {N:Nat→Prop} (s:PrS) {m k:Nat} (z:PrZ) (h:z.Ok m k) (hk:k+1≤2*m+8) (h2:2*m+2≤k+1):Lq Tryz.prog N pr.code (pr.st 1 0 (s.to z)) (.exit 2) (pr.st 1 4 (s.to z.row1)):=by
 have ad:∀ {c q y:Int},Bd k c→Few6 q→Bd m y→Bd (k+1) (c+q*(z.u*y)):=fun hc hq hy=>by
  have hq1:Bd 1 _:=HY hq
  have:=(hc.mono (show k≤k from Nat.le_refl _)).add ((hq1.mul (h.u.mul hy)).mono (show 1+(m+m)≤k by omega))
  exact this
 have up0:z.Ok m (k+1):=⟨h.hm,hk,h.u,h.y,h.c.1.mono (by omega),h.c.2.1.mono (by omega),h.c.2.2.1.mono (by omega),h.c.2.2.2.mono (by omega)⟩
 refine pr.s10 s _ up0 ?_
 have up1:=QS up0 (ad h.c.2.1 (.inl rfl) h.y.1)
 refine pr.s11 s _ up1 ?_
 have up2:=QT up1 (ad h.c.1 (.inr (.inl rfl)) h.y.2.1)
 refine pr.s12 s _ up2 ?_
 have up3:=QQ up2 (ad h.c.2.2.2 (.inl rfl) h.y.2.2.1)
 refine pr.s13 s _ up3 ?_
 have up4:=QR up3 (ad h.c.2.2.1 (.inr (.inl rfl)) h.y.2.2.2)
 exact .end (f:=5) GW Ba (pr.r14 bigF _) (fun q=>by cases q) rfl
def PrZ.row2 (z:PrZ):PrZ:= {z with c0:=z.c0+3*(z.u*z.y2),c1:=z.c1+3*(z.u*z.y3),c2:=z.c2+1*(z.u*z.y0),c3:=z.c3+1*(z.u*z.y1)}
theorem pr.w2 {N:Nat→Prop} (s:PrS) {m k:Nat} (z:PrZ) (h:z.Ok m k) (hk:k+1≤2*m+8) (h2:2*m+2≤k+1):Lq Tryz.prog N pr.code (pr.st 2 0 (s.to z)) (.exit 2) (pr.st 2 4 (s.to z.row2)):=by
 have ad:∀ {c q y:Int},Bd k c→Few6 q→Bd m y→Bd (k+1) (c+q*(z.u*y)):=fun hc hq hy=>by
  have hq1:Bd 1 _:=HY hq
  have:=(hc.mono (show k≤k from Nat.le_refl _)).add ((hq1.mul (h.u.mul hy)).mono (show 1+(m+m)≤k by omega))
  exact this
 have up0:z.Ok m (k+1):=⟨h.hm,hk,h.u,h.y,h.c.1.mono (by omega),h.c.2.1.mono (by omega),h.c.2.2.1.mono (by omega),h.c.2.2.2.mono (by omega)⟩
 refine pr.s20 s _ up0 ?_
 have up1:=QR up0 (ad h.c.2.2.1 (.inl rfl) h.y.1)
 refine pr.s21 s _ up1 ?_
 have up2:=QQ up1 (ad h.c.2.2.2 (.inl rfl) h.y.2.1)
 refine pr.s22 s _ up2 ?_
 have up3:=QT up2 (ad h.c.1 (.inr (.inr (.inl rfl))) h.y.2.2.1)
 refine pr.s23 s _ up3 ?_
 have up4:=QS up3 (ad h.c.2.1 (.inr (.inr (.inl rfl))) h.y.2.2.2)
 exact .end (f:=5) GW Ba (pr.r24 bigF _) (fun q=>by cases q) rfl
def PrZ.row3 (z:PrZ):PrZ:= {z with c0:=z.c0+6*(z.u*z.y3),c1:=z.c1+3*(z.u*z.y2),c2:=z.c2+2*(z.u*z.y1),c3:=z.c3+1*(z.u*z.y0)}
theorem pr.w3 {N:Nat→Prop} (s:PrS) {m k:Nat} (z:PrZ) (h:z.Ok m k) (hk:k+1≤2*m+8) (h2:2*m+2≤k+1):Lq Tryz.prog N pr.code (pr.st 3 0 (s.to z)) (.exit 2) (pr.st 3 4 (s.to z.row3)):=by
 have ad:∀ {c q y:Int},Bd k c→Few6 q→Bd m y→Bd (k+1) (c+q*(z.u*y)):=fun hc hq hy=>by
  have hq1:Bd 1 _:=HY hq
  have:=(hc.mono (show k≤k from Nat.le_refl _)).add ((hq1.mul (h.u.mul hy)).mono (show 1+(m+m)≤k by omega))
  exact this
 have up0:z.Ok m (k+1):=⟨h.hm,hk,h.u,h.y,h.c.1.mono (by omega),h.c.2.1.mono (by omega),h.c.2.2.1.mono (by omega),h.c.2.2.2.mono (by omega)⟩
 refine pr.s30 s _ up0 ?_
 have up1:=QQ up0 (ad h.c.2.2.2 (.inl rfl) h.y.1)
 refine pr.s31 s _ up1 ?_
 have up2:=QR up1 (ad h.c.2.2.1 (.inr (.inl rfl)) h.y.2.1)
 refine pr.s32 s _ up2 ?_
 have up3:=QS up2 (ad h.c.2.1 (.inr (.inr (.inl rfl))) h.y.2.2.1)
 refine pr.s33 s _ up3 ?_
 have up4:=QT up3 (ad h.c.1 (.inr (.inr (.inr rfl))) h.y.2.2.2)
 exact .end (f:=5) GW Ba (pr.r34 bigF _) (fun q=>by cases q) rfl
end Go.Proofs.YtphlckkbihmlnaaGreatDoor.G
end
section
namespace RX
open Go
def aggl:Value→List Value
 | .agg ⟨l⟩=>l
 |_=>[]
def bkl:Option Blk→List Value
 |some (.cs l _)=>l
 |_=>[]
def bA (l:List Value) (i:Nat):Bool:=match nth l i with| .bool b=>b|_=>false
def sA (l:List Value) (i:Nat):ByteArray:=match nth l i with| .string s=>s|_=>⟨#[]⟩
def iA:Value→Int
 | .int .i64 i=>i
 |_=>0
def isP (v:Value) (b:Nat):Bool:=match v with| .pointer (some ⟨b',o,none⟩)=>Nat.beq b' b&&Nat.beq o 0|_=>false
theorem It {v:Value} {b:Nat} (h:isP v b=true):v= .pointer (some ⟨b,0,none⟩):=by
 unfold isP at h
 split at h
 ·simp only [Bool.and_eq_true] at h
  rw [Nat.eq_of_beq_eq_true h.1,Nat.eq_of_beq_eq_true h.2]
 ·cases h
def isI (v:Value):Bool:=match v with| .int .i64 _=>true|_=>false
theorem Nr {v:Value} (h:isI v=true):v= .int .i64 (iA v):=by
 unfold isI at h
 split at h
 ·rfl
 ·cases h
def shC:Nat→List Value→Bool
 |0,[]=>true
 |k+1,.bool _:: .string _::r=>shC k r
 |_,_=>false
def mkC (l:List Value) (i:Nat):Nat→List Value
 |0=>[]
 |k+1=> .bool (bA l i):: .string (sA l (i+1))::mkC l (i+2) k
theorem MT (a b:Value) (l:List Value):∀(k i:Nat),mkC (a::b::l) (i+2) k=mkC l i k
 |0,i=>rfl
 | k+1,i=>by
  have h1:bA (a::b::l) (i+2)=bA l i:=rfl
  have h2:sA (a::b::l) (i+2+1)=sA l (i+1):=rfl
  simp only [mkC,h1,h2,MT a b l k]
theorem NV:∀ {k:Nat} {l:List Value},shC k l=true→l=mkC l 0 k
 |0,[],_=>rfl
 | k+1,.bool x:: .string y::r,h=>by
  show _= .bool x:: .string y::mkC (.bool x:: .string y::r) (0+2) k
  rw [MT,←NV (show shC k r=true from h)]
 |0,_::_,h=>by simp [shC] at h
 |k+1,[],h=>by simp [shC] at h
 |k+1,[a],h=>by cases a<;>simp [shC] at h
 | k +1,a::b::r,h=>by
  unfold shC at h
  split at h
  ·contradiction
  ·rename_i e1 e2
   injection e1 with e1
   subst e1
   injection e2 with e2 e3
   injection e3 with e3 e4
   subst e2 e3 e4
   show _=Value.bool _::Value.string _::mkC (_::_::_) (0+2) _
   rw [MT,←NV h]
   rfl
  ·cases h
def isA (k:Nat) (v:Value):Bool:=match v with| .agg ⟨l⟩=>shC k l|_=>false
theorem PW {k:Nat} {v:Value} (h:isA k v=true):v= .agg ⟨mkC (aggl v) 0 k⟩:=by
 unfold isA at h
 split at h
 ·rename_i l
  exact congrArg (fun l=>Value.agg ⟨l⟩) (NV h)
 ·cases h
def isB (t:TypeId) (k:Nat) (b:Option Blk):Bool:=match b with|some (.cs l t')=>Nat.beq t' t&&shC k l|_=>false
theorem K7 {t:TypeId} {k:Nat} {b:Option Blk} (h:isB t k b=true):b=some (.cs (mkC (bkl b) 0 k) t):=by
 unfold isB at h
 split at h
 ·simp only [Bool.and_eq_true] at h
  rw [Nat.eq_of_beq_eq_true h.1]
  exact congrArg (fun l=>some (Blk.cs l t)) (NV h.2)
 ·cases h
def shZ:Nat→List Value→Bool
 |0,[]=>true
 |k+1,.bool b:: .string s::r=> !b&&(Nat.beq s.size 0&&shZ k r)
 |_,_=>false
def mkZs:Nat→List Value
 |0=>[]
 |k+1=> .bool false:: .string ⟨#[]⟩::mkZs k
theorem T7 {s:ByteArray} (h:Nat.beq s.size 0=true):s=⟨#[]⟩:=by
 have:=Nat.eq_of_beq_eq_true h
 obtain ⟨⟨l⟩⟩:=s
 cases l with
 |nil=>rfl
 |cons a r=>simp [ByteArray.size] at this
theorem Rm:∀ {k:Nat} {l:List Value},shZ k l=true→l=mkZs k
 |0,[],_=>rfl
 |0,_::_,h=>by simp [shZ] at h
 |k+1,[],h=>by simp [shZ] at h
 |k+1,[a],h=>by cases a<;>simp [shZ] at h
 | k +1,a::b::r,h=>by
  unfold shZ at h
  split at h
  ·contradiction
  ·rename_i e1 e2
   injection e1 with e1
   subst e1
   injection e2 with e2 e3
   injection e3 with e3 e4
   subst e2 e3 e4
   simp only [Bool.and_eq_true,Bool.not_eq_true'] at h
   rw [h.1,T7 h.2.1,Rm h.2.2]; rfl
  ·cases h
def isZ (t:TypeId) (k:Nat) (b:Option Blk):Bool:=match b with|some (.cs l t')=>Nat.beq t' t&&shZ k l|_=>false
theorem SM {t:TypeId} {k:Nat} {b:Option Blk} (h:isZ t k b=true):b=some (.cs (mkZs k) t):=by
 unfold isZ at h
 split at h
 ·simp only [Bool.and_eq_true] at h
  rw [Nat.eq_of_beq_eq_true h.1,Rm h.2]
 ·cases h
end RX
end
section
namespace Go.Proofs.YtphlckkbihmlnaaGreatDoor.G
set_option maxRecDepth 100000
open Go Go.Proofs RX
def szB (k:Nat) (n:Bool) (s:ByteArray):Bool:=vld n s&&Nat.ble s.size k
theorem GP {k:Nat} {n:Bool} {s:ByteArray} (h:szB k n s=true):Bd k (vl n s)∧dI (vl n s)=(n,s):=by
 simp only [szB,Bool.and_eq_true,Nat.ble_eq] at h
 refine ⟨?_,Sn h.1⟩
 have h1:=JP s.data.toList
 have h2:s.data.toList.length=s.size:=rfl
 rw [h2] at h1
 unfold Bd
 rw [Kv]
 exact Int.lt_of_lt_of_le h1 (Gu h.2)
theorem GX {k:Nat} {z:Int} (h:Bd k z):szB k (dI z).1 (dI z).2=true:=by
 simp only [szB,vld_dI,Bool.true_and,Nat.ble_eq]
 exact IN h
theorem PU {α:Type} {a0 a1 a2 a3 a4 a5 a6 a7 a8 a9 b0 b1 b2 b3 b4 b5 b6 b7 b8 b9:α} (h0:a0=b0) (h1:a1=b1) (h2:a2=b2) (h3:a3=b3) (h4:a4=b4) (h5:a5=b5) (h6:a6=b6) (h7:a7=b7) (h8:a8=b8) (h9:a9=b9):[a0,a1,a2,a3,a4,a5,a6,a7,a8,a9]=[b0,b1,b2,b3,b4,b5,b6,b7,b8,b9]:=by subst h0 h1 h2 h3 h4 h5 h6 h7 h8 h9; rfl
theorem RC {α:Type} {a0 a1 a2 a3 a4 b0 b1 b2 b3 b4:α} (h0:a0=b0) (h1:a1=b1) (h2:a2=b2) (h3:a3=b3) (h4:a4=b4):[a0,a1,a2,a3,a4]=[b0,b1,b2,b3,b4]:=by subst h0 h1 h2 h3 h4; rfl
def PRM:Nat:=400000000
def PrS.z (s:PrS):PrZ:=⟨vl s.un0 s.us0,vl s.yn0 s.ys0,vl s.yn1 s.ys1,vl s.yn2 s.ys2,vl s.yn3 s.ys3,vl s.cn0 s.cs0,vl s.cn1 s.cs1,vl s.cn2 s.cs2,vl s.cn3 s.cs3⟩
def pr.need (k:Nat) (s:PrS):Bool:=szB PRM s.un0 s.us0&&szB PRM s.yn0 s.ys0&&szB PRM s.yn1 s.ys1&&szB PRM s.yn2 s.ys2&&szB PRM s.yn3 s.ys3&&szB k s.cn0 s.cs0&&szB k s.cn1 s.cs1&&szB k s.cn2 s.cs2&&szB k s.cn3 s.cs3
theorem pr.of_need {k:Nat} {s:PrS} (hk:k≤2*PRM+8) (h:pr.need k s=true):s.z.Ok PRM k∧s.to s.z=s:=by
 simp only [pr.need,Bool.and_eq_true] at h
 obtain ⟨⟨⟨⟨⟨⟨⟨⟨hu,y0⟩,y1⟩,y2⟩,y3⟩,c0⟩,c1⟩,c2⟩,c3⟩:=h
 refine ⟨⟨by decide,hk,(GP hu).1,⟨(GP y0).1,(GP y1).1,(GP y2).1,(GP y3).1⟩,⟨(GP c0).1,(GP c1).1,(GP c2).1,(GP c3).1⟩⟩,?_⟩
 unfold PrS.to PrS.z
 simp only [(GP hu).2,(GP y0).2,(GP y1).2,(GP y2).2,(GP y3).2,(GP c0).2,(GP c1).2,(GP c2).2,(GP c3).2]
noncomputable def pr.lt (i:Int) (s:PrS):LT:=
 bif ieq i 0 then .got (pr.need (2*PRM+1) s) (.exit 2) (pr.st 0 4 (s.to s.z.row0)) else
 bif ieq i 1 then .got (pr.need (2*PRM+2) s) (.exit 2) (pr.st 1 4 (s.to s.z.row1)) else
 bif ieq i 2 then .got (pr.need (2*PRM+3) s) (.exit 2) (pr.st 2 4 (s.to s.z.row2)) else
 .got (ieq i 3&&pr.need (2*PRM+4) s) (.exit 2) (pr.st 3 4 (s.to s.z.row3))
theorem pr.lp {N:Nat→Prop} (i:Int) (s:PrS) {x:X} {S':St} (h:(pr.lt i s).at=some (x,S')):Lq Tryz.prog N pr.code (pr.st i 0 s) x S':=by
 unfold pr.lt at h
 cases h0:ieq i 0 with
 | true=>
  obtain rfl:=H9.1 h0
  rw [h0,cond_true] at h
  obtain ⟨hn,rfl,rfl⟩:=Fk h
  obtain ⟨h1,h2⟩:=pr.of_need (by decide) hn
  have:=pr.w0 (N:=N) s s.z h1 (by decide) (by decide)
  rwa [h2] at this
 |false=>
 rw [h0,cond_false] at h
 cases h1:ieq i 1 with
 | true=>
  obtain rfl:=H9.1 h1
  rw [h1,cond_true] at h
  obtain ⟨hn,rfl,rfl⟩:=Fk h
  obtain ⟨h1,h2⟩:=pr.of_need (by decide) hn
  have:=pr.w1 (N:=N) s s.z h1 (by decide) (by decide)
  rwa [h2] at this
 |false=>
 rw [h1,cond_false] at h
 cases h3:ieq i 2 with
 | true=>
  obtain rfl:=H9.1 h3
  rw [h3,cond_true] at h
  obtain ⟨hn,rfl,rfl⟩:=Fk h
  obtain ⟨h1,h2⟩:=pr.of_need (by decide) hn
  have:=pr.w2 (N:=N) s s.z h1 (by decide) (by decide)
  rwa [h2] at this
 |false=>
 rw [h3,cond_false] at h
 obtain ⟨hn,rfl,rfl⟩:=Fk h
 rw [Bool.and_eq_true] at hn
 obtain rfl:=H9.1 hn.1
 obtain ⟨h1,h2⟩:=pr.of_need (by decide) hn.2
 have:=pr.w3 (N:=N) s s.z h1 (by decide) (by decide)
 rwa [h2] at this
def pr.of (S:St):PrS:=⟨bA (bkl (RX.look S.heap 160)) 0,sA (bkl (RX.look S.heap 160)) 1,bA (aggl (RX.nth S.tmps 18)) 0,sA (aggl (RX.nth S.tmps 18)) 1,bA (aggl (RX.nth S.tmps 18)) 2,sA (aggl (RX.nth S.tmps 18)) 3,bA (aggl (RX.nth S.tmps 18)) 4,sA (aggl (RX.nth S.tmps 18)) 5,bA (aggl (RX.nth S.tmps 18)) 6,sA (aggl (RX.nth S.tmps 18)) 7,bA (bkl (RX.look S.heap 48)) 0,sA (bkl (RX.look S.heap 48)) 1,bA (bkl (RX.look S.heap 48)) 2,sA (bkl (RX.look S.heap 48)) 3,bA (bkl (RX.look S.heap 48)) 4,sA (bkl (RX.look S.heap 48)) 5,bA (bkl (RX.look S.heap 48)) 6,sA (bkl (RX.look S.heap 48)) 7,bA (aggl (RX.nth S.tmps 12)) 0,sA (aggl (RX.nth S.tmps 12)) 1,bA (aggl (RX.nth S.tmps 12)) 2,sA (aggl (RX.nth S.tmps 12)) 3,bA (aggl (RX.nth S.tmps 12)) 4,sA (aggl (RX.nth S.tmps 12)) 5,bA (aggl (RX.nth S.tmps 12)) 6,sA (aggl (RX.nth S.tmps 12)) 7,bA (bkl (RX.look S.heap 0)) 0,sA (bkl (RX.look S.heap 0)) 1,bA (bkl (RX.look S.heap 0)) 2,sA (bkl (RX.look S.heap 0)) 3,bA (bkl (RX.look S.heap 0)) 4,sA (bkl (RX.look S.heap 0)) 5,bA (bkl (RX.look S.heap 0)) 6,sA (bkl (RX.look S.heap 0)) 7,bA (bkl (RX.look S.heap 0)) 8,sA (bkl (RX.look S.heap 0)) 9,bA (bkl (RX.look S.heap 16)) 0,sA (bkl (RX.look S.heap 16)) 1,bA (bkl (RX.look S.heap 16)) 2,sA (bkl (RX.look S.heap 16)) 3,bA (bkl (RX.look S.heap 16)) 4,sA (bkl (RX.look S.heap 16)) 5,bA (bkl (RX.look S.heap 16)) 6,sA (bkl (RX.look S.heap 16)) 7,bA (bkl (RX.look S.heap 16)) 8,sA (bkl (RX.look S.heap 16)) 9⟩
def pr.chk (S:St):Bool:=Nat.beq S.tmps.length 62&&(Nat.beq S.nxt 256&&(isP (RX.nth S.tmps 2) 0&&(isP (RX.nth S.tmps 3) 16&&(isP (RX.nth S.tmps 4) 32&&(isP (RX.nth S.tmps 5) 48&&(isI (RX.nth S.tmps 6)&&(isP (RX.nth S.tmps 7) 160&&(isA 4 (RX.nth S.tmps 12)&&(isI (RX.nth S.tmps 13)&&(isA 4 (RX.nth S.tmps 18)&&(isI (RX.nth S.tmps 19)&&
 (isB 27 5 (RX.look S.heap 0)&&(isB 27 5 (RX.look S.heap 16)&&(isZ 27 5 (RX.look S.heap 32)&&(isB 25 4 (RX.look S.heap 48)&&(isB 24 1 (RX.look S.heap 160)&&(ieq (iA (RX.nth S.tmps 13)) (iA (RX.nth S.tmps 6))&&ieq (iA (RX.nth S.tmps 19)) 0)))))))))))))))))
noncomputable def pr.t:LSpec:=fun S=>bif pr.chk S then some (pr.lt (iA (RX.nth S.tmps 6)) (pr.of S)) else none
theorem pr.lok {N:Nat→Prop} :LOKn Tryz.prog N pr.code pr.t:=by
 refine GO fun S lt x S' ht hat=> ?_
 unfold pr.t at ht
 cases hb:pr.chk S with
 |false=>rw [hb] at ht; cases ht
 | true=>
  rw [hb] at ht
  injection ht with ht
  subst ht
  simp only [pr.chk,Bool.and_eq_true] at hb
  obtain ⟨hl,hn,h2,h3,h4,h5,h6,h7,h12,h13,h18,h19,g0,g16,g32,g48,g160,e1,e2⟩:=hb
  have e1:=H9.1 e1
  have e2:=H9.1 e2
  have h13:=Nr h13
  have h19:=Nr h19
  rw [e1] at h13
  rw [e2] at h19
  refine .into 62 [2,3,4,5,6,7,12,13,18,19] [0,16,32,48,160] hl (Nat.eq_of_beq_eq_true hn) ?_ ?_ rfl (pr.lp _ (pr.of S) hat)
  ·simp only [List.map_cons,List.map_nil]
   rw [It h2,It h3,It h4,It h5,It h7,h13,h19]
   refine PU rfl rfl rfl rfl (Nr h6) rfl (PW h12) rfl (PW h18) rfl
  ·simp only [List.map_cons,List.map_nil]
   exact RC (K7 g0) (K7 g16) (SM g32) (K7 g48) (K7 g160)
abbrev pro.env:Env:=⟨[],[],[]⟩
noncomputable abbrev pro.code:Code:=Ag Tryz.f100 0
noncomputable abbrev pro.ex:=exec (R:=X×List Value×List (Option Blk)) Tryz.prog pro.env [(2,pr.t)] (hs Tryz.prog pro.env 5).lf (hs Tryz.prog pro.env 5).cf pro.code
noncomputable abbrev pro.st (i:Int) (s:PrS):St:=⟨gbuild [(2,.pointer (some ⟨0,0,none⟩)),(3,.pointer (some ⟨16,0,none⟩)),(4,.pointer (some ⟨32,0,none⟩)),(5,.pointer (some ⟨48,0,none⟩)),(12,.agg ⟨[.bool s.xn0,.string s.xs0,.bool s.xn1,.string s.xs1,.bool s.xn2,.string s.xs2,.bool s.xn3,.string s.xs3]⟩),(13,.int .i64 i)] 0 62,[(0,.cs [.bool s.an0,.string s.as0,.bool s.an1,.string s.as1,.bool s.an2,.string s.as2,.bool s.an3,.string s.as3,.bool s.an4,.string s.as4] 27),(16,.cs [.bool s.bn0,.string s.bs0,.bool s.bn1,.string s.bs1,.bool s.bn2,.string s.bs2,.bool s.bn3,.string s.bs3,.bool s.bn4,.string s.bs4] 27),(32,.cs [.bool false,.string ⟨#[]⟩,.bool false,.string ⟨#[]⟩,.bool false,.string ⟨#[]⟩,.bool false,.string ⟨#[]⟩,.bool false,.string ⟨#[]⟩] 27),(48,.cs [.bool s.cn0,.string s.cs0,.bool s.cn1,.string s.cs1,.bool s.cn2,.string s.cs2,.bool s.cn3,.string s.cs3] 25)],112⟩
abbrev pro.pk:=pick 62 [2,3,4,5,12,13] [0,16,32,48]
abbrev pro.lk:=RX.lk [2,3,4,5,12,13] [0,16,32,48]
theorem pro.envok:EnvOk Tryz.prog pro.env:=⟨Ac,Ai,Ad,Ah⟩
theorem pro.lsok {N:Nat→Prop} :LsOkn Tryz.prog N [(2,pr.t)] pro.code:=Fj rfl pr.lok Ba
abbrev PrS.in0 (s:PrS):PrS:= {s with un0:=s.xn0,us0:=s.xs0,yn0:=s.bn0,ys0:=s.bs0,yn1:=s.bn1,ys1:=s.bs1,yn2:=s.bn2,ys2:=s.bs2,yn3:=s.bn3,ys3:=s.bs3}
theorem pro.r0 (s:PrS):pro.ex (pro.st 0 s) pro.pk=bif pr.need (2*PRM+1) s.in0 then pro.lk .normal (pro.st 1 (s.in0.to s.in0.z.row0)) else none:=by kernel_rfl
abbrev PrS.in1 (s:PrS):PrS:= {s with un0:=s.xn1,us0:=s.xs1,yn0:=s.bn0,ys0:=s.bs0,yn1:=s.bn1,ys1:=s.bs1,yn2:=s.bn2,ys2:=s.bs2,yn3:=s.bn3,ys3:=s.bs3}
theorem pro.r1 (s:PrS):pro.ex (pro.st 1 s) pro.pk=bif pr.need (2*PRM+2) s.in1 then pro.lk .normal (pro.st 2 (s.in1.to s.in1.z.row1)) else none:=by kernel_rfl
abbrev PrS.in2 (s:PrS):PrS:= {s with un0:=s.xn2,us0:=s.xs2,yn0:=s.bn0,ys0:=s.bs0,yn1:=s.bn1,ys1:=s.bs1,yn2:=s.bn2,ys2:=s.bs2,yn3:=s.bn3,ys3:=s.bs3}
theorem pro.r2 (s:PrS):pro.ex (pro.st 2 s) pro.pk=bif pr.need (2*PRM+3) s.in2 then pro.lk .normal (pro.st 3 (s.in2.to s.in2.z.row2)) else none:=by kernel_rfl
abbrev PrS.in3 (s:PrS):PrS:= {s with un0:=s.xn3,us0:=s.xs3,yn0:=s.bn0,ys0:=s.bs0,yn1:=s.bn1,ys1:=s.bs1,yn2:=s.bn2,ys2:=s.bs2,yn3:=s.bn3,ys3:=s.bs3}
theorem pro.r3 (s:PrS):pro.ex (pro.st 3 s) pro.pk=bif pr.need (2*PRM+4) s.in3 then pro.lk .normal (pro.st 4 (s.in3.to s.in3.z.row3)) else none:=by kernel_rfl
theorem pro.r4 (s:PrS):pro.ex (pro.st 4 s) pro.pk=pro.lk (.exit 0) (pro.st 4 s):=by kernel_rfl
def PrS.wc (s:PrS) (c0 c1 c2 c3:Int):PrS:= {s with cn0:=(dI c0).1,cs0:=(dI c0).2,cn1:=(dI c1).1,cs1:=(dI c1).2,cn2:=(dI c2).1,cs2:=(dI c2).2,cn3:=(dI c3).1,cs3:=(dI c3).2}
theorem pro.g0 {N:Nat→Prop} (s:PrS) (c0 c1 c2 c3:Int) (hx:szB PRM s.xn0 s.xs0=true) (hb:szB PRM s.bn0 s.bs0=true∧szB PRM s.bn1 s.bs1=true∧szB PRM s.bn2 s.bs2=true∧szB PRM s.bn3 s.bs3=true) (hc:Bd (2*PRM+1) c0∧Bd (2*PRM+1) c1∧Bd (2*PRM+1) c2∧Bd (2*PRM+1) c3) {x:X} {S':St}
  (ih:Lq Tryz.prog N pro.code (pro.st 1 (s.wc (c0+1*(vl s.xn0 s.xs0*vl s.bn0 s.bs0)) (c1+1*(vl s.xn0 s.xs0*vl s.bn1 s.bs1)) (c2+1*(vl s.xn0 s.xs0*vl s.bn2 s.bs2)) (c3+1*(vl s.xn0 s.xs0*vl s.bn3 s.bs3)))) x S'):Lq Tryz.prog N pro.code (pro.st 0 (s.wc c0 c1 c2 c3)) x S':=by
 have hn:pr.need (2*PRM+1) (s.wc c0 c1 c2 c3).in0=true:=by
  simp only [pr.need,Bool.and_eq_true]
  exact ⟨⟨⟨⟨⟨⟨⟨⟨hx,hb.1⟩,hb.2.1⟩,hb.2.2.1⟩,hb.2.2.2⟩,GX hc.1⟩,GX hc.2.1⟩,GX hc.2.2.1⟩,GX hc.2.2.2⟩
 have hz:(s.wc c0 c1 c2 c3).in0.z=⟨vl s.xn0 s.xs0,vl s.bn0 s.bs0,vl s.bn1 s.bs1,vl s.bn2 s.bs2,vl s.bn3 s.bs3,c0,c1,c2,c3⟩:=by simp only [PrS.z,PrS.wc,Hq]
 refine .to (f:=5) pro.envok pro.lsok ((pro.r0 (s.wc c0 c1 c2 c3)).trans (ct hn)) rfl ?_
 rw [hz]
 exact ih
theorem pro.g1 {N:Nat→Prop} (s:PrS) (c0 c1 c2 c3:Int) (hx:szB PRM s.xn1 s.xs1=true) (hb:szB PRM s.bn0 s.bs0=true∧szB PRM s.bn1 s.bs1=true∧szB PRM s.bn2 s.bs2=true∧szB PRM s.bn3 s.bs3=true) (hc:Bd (2*PRM+2) c0∧Bd (2*PRM+2) c1∧Bd (2*PRM+2) c2∧Bd (2*PRM+2) c3) {x:X} {S':St}
  (ih:Lq Tryz.prog N pro.code (pro.st 2 (s.wc (c0+2*(vl s.xn1 s.xs1*vl s.bn1 s.bs1)) (c1+1*(vl s.xn1 s.xs1*vl s.bn0 s.bs0)) (c2+2*(vl s.xn1 s.xs1*vl s.bn3 s.bs3)) (c3+1*(vl s.xn1 s.xs1*vl s.bn2 s.bs2)))) x S'):Lq Tryz.prog N pro.code (pro.st 1 (s.wc c0 c1 c2 c3)) x S':=by
 have hn:pr.need (2*PRM+2) (s.wc c0 c1 c2 c3).in1=true:=by
  simp only [pr.need,Bool.and_eq_true]
  exact ⟨⟨⟨⟨⟨⟨⟨⟨hx,hb.1⟩,hb.2.1⟩,hb.2.2.1⟩,hb.2.2.2⟩,GX hc.1⟩,GX hc.2.1⟩,GX hc.2.2.1⟩,GX hc.2.2.2⟩
 have hz:(s.wc c0 c1 c2 c3).in1.z=⟨vl s.xn1 s.xs1,vl s.bn0 s.bs0,vl s.bn1 s.bs1,vl s.bn2 s.bs2,vl s.bn3 s.bs3,c0,c1,c2,c3⟩:=by simp only [PrS.z,PrS.wc,Hq]
 refine .to (f:=5) pro.envok pro.lsok ((pro.r1 (s.wc c0 c1 c2 c3)).trans (ct hn)) rfl ?_
 rw [hz]
 exact ih
theorem pro.g2 {N:Nat→Prop} (s:PrS) (c0 c1 c2 c3:Int) (hx:szB PRM s.xn2 s.xs2=true) (hb:szB PRM s.bn0 s.bs0=true∧szB PRM s.bn1 s.bs1=true∧szB PRM s.bn2 s.bs2=true∧szB PRM s.bn3 s.bs3=true) (hc:Bd (2*PRM+3) c0∧Bd (2*PRM+3) c1∧Bd (2*PRM+3) c2∧Bd (2*PRM+3) c3) {x:X} {S':St}
  (ih:Lq Tryz.prog N pro.code (pro.st 3 (s.wc (c0+3*(vl s.xn2 s.xs2*vl s.bn2 s.bs2)) (c1+3*(vl s.xn2 s.xs2*vl s.bn3 s.bs3)) (c2+1*(vl s.xn2 s.xs2*vl s.bn0 s.bs0)) (c3+1*(vl s.xn2 s.xs2*vl s.bn1 s.bs1)))) x S'):Lq Tryz.prog N pro.code (pro.st 2 (s.wc c0 c1 c2 c3)) x S':=by
 have hn:pr.need (2*PRM+3) (s.wc c0 c1 c2 c3).in2=true:=by
  simp only [pr.need,Bool.and_eq_true]
  exact ⟨⟨⟨⟨⟨⟨⟨⟨hx,hb.1⟩,hb.2.1⟩,hb.2.2.1⟩,hb.2.2.2⟩,GX hc.1⟩,GX hc.2.1⟩,GX hc.2.2.1⟩,GX hc.2.2.2⟩
 have hz:(s.wc c0 c1 c2 c3).in2.z=⟨vl s.xn2 s.xs2,vl s.bn0 s.bs0,vl s.bn1 s.bs1,vl s.bn2 s.bs2,vl s.bn3 s.bs3,c0,c1,c2,c3⟩:=by simp only [PrS.z,PrS.wc,Hq]
 refine .to (f:=5) pro.envok pro.lsok ((pro.r2 (s.wc c0 c1 c2 c3)).trans (ct hn)) rfl ?_
 rw [hz]
 exact ih
theorem pro.g3 {N:Nat→Prop} (s:PrS) (c0 c1 c2 c3:Int) (hx:szB PRM s.xn3 s.xs3=true) (hb:szB PRM s.bn0 s.bs0=true∧szB PRM s.bn1 s.bs1=true∧szB PRM s.bn2 s.bs2=true∧szB PRM s.bn3 s.bs3=true) (hc:Bd (2*PRM+4) c0∧Bd (2*PRM+4) c1∧Bd (2*PRM+4) c2∧Bd (2*PRM+4) c3) {x:X} {S':St}
  (ih:Lq Tryz.prog N pro.code (pro.st 4 (s.wc (c0+6*(vl s.xn3 s.xs3*vl s.bn3 s.bs3)) (c1+3*(vl s.xn3 s.xs3*vl s.bn2 s.bs2)) (c2+2*(vl s.xn3 s.xs3*vl s.bn1 s.bs1)) (c3+1*(vl s.xn3 s.xs3*vl s.bn0 s.bs0)))) x S'):Lq Tryz.prog N pro.code (pro.st 3 (s.wc c0 c1 c2 c3)) x S':=by
 have hn:pr.need (2*PRM+4) (s.wc c0 c1 c2 c3).in3=true:=by
  simp only [pr.need,Bool.and_eq_true]
  exact ⟨⟨⟨⟨⟨⟨⟨⟨hx,hb.1⟩,hb.2.1⟩,hb.2.2.1⟩,hb.2.2.2⟩,GX hc.1⟩,GX hc.2.1⟩,GX hc.2.2.1⟩,GX hc.2.2.2⟩
 have hz:(s.wc c0 c1 c2 c3).in3.z=⟨vl s.xn3 s.xs3,vl s.bn0 s.bs0,vl s.bn1 s.bs1,vl s.bn2 s.bs2,vl s.bn3 s.bs3,c0,c1,c2,c3⟩:=by simp only [PrS.z,PrS.wc,Hq]
 refine .to (f:=5) pro.envok pro.lsok ((pro.r3 (s.wc c0 c1 c2 c3)).trans (ct hn)) rfl ?_
 rw [hz]
 exact ih
theorem pro.go {N:Nat→Prop} (s:PrS) (c0 c1 c2 c3:Int) (hx:szB PRM s.xn0 s.xs0=true∧szB PRM s.xn1 s.xs1=true∧szB PRM s.xn2 s.xs2=true∧szB PRM s.xn3 s.xs3=true) (hb:szB PRM s.bn0 s.bs0=true∧szB PRM s.bn1 s.bs1=true∧szB PRM s.bn2 s.bs2=true∧szB PRM s.bn3 s.bs3=true) (hc:Bd (2*PRM+1) c0∧Bd (2*PRM+1) c1∧Bd (2*PRM+1) c2∧Bd (2*PRM+1) c3):
  Lq Tryz.prog N pro.code (pro.st 0 (s.wc c0 c1 c2 c3)) (.exit 0) (pro.st 4 (s.wc ((((c0+1*(vl s.xn0 s.xs0*vl s.bn0 s.bs0))+2*(vl s.xn1 s.xs1*vl s.bn1 s.bs1))+3*(vl s.xn2 s.xs2*vl s.bn2 s.bs2))+6*(vl s.xn3 s.xs3*vl s.bn3 s.bs3)) ((((c1+1*(vl s.xn0 s.xs0*vl s.bn1 s.bs1))+1*(vl s.xn1 s.xs1*vl s.bn0 s.bs0))+3*(vl s.xn2 s.xs2*vl s.bn3 s.bs3))+3*(vl s.xn3 s.xs3*vl s.bn2 s.bs2)) ((((c2+1*(vl s.xn0 s.xs0*vl s.bn2 s.bs2))+2*(vl s.xn1 s.xs1*vl s.bn3 s.bs3))+1*(vl s.xn2 s.xs2*vl s.bn0 s.bs0))+2*(vl s.xn3 s.xs3*vl s.bn1 s.bs1)) ((((c3+1*(vl s.xn0 s.xs0*vl s.bn3 s.bs3))+1*(vl s.xn1 s.xs1*vl s.bn2 s.bs2))+1*(vl s.xn2 s.xs2*vl s.bn1 s.bs1))+1*(vl s.xn3 s.xs3*vl s.bn0 s.bs0)))):=by
 have ad:∀ {n m:Bool} {t u:ByteArray} {c q:Int} (k k':Nat),2*PRM+1≤k→k'=k+1→Bd k c→Few6 q→szB PRM n t=true→szB PRM m u=true→Bd k' (c+q*(vl n t*vl m u)):=fun k k' hk e hc hq h1 h2=>e▸
  hc.add (((HY hq).mul ((GP h1).1.mul (GP h2).1)).mono (by omega))
 have f1:Few6 1:= .inl rfl
 have f2:Few6 2:= .inr (.inl rfl)
 have f3:Few6 3:= .inr (.inr (.inl rfl))
 have f6:Few6 6:= .inr (.inr (.inr rfl))
 obtain ⟨x0,x1,x2,x3⟩:=hx
 have hb':=hb
 obtain ⟨b0,b1,b2,b3⟩:=hb'
 obtain ⟨d0,d1,d2,d3⟩:=hc
 refine pro.g0 s _ _ _ _ x0 hb ⟨d0,d1,d2,d3⟩ ?_
 replace d0:=ad (2*PRM+1) (2*PRM+2) (by omega) (by omega) d0 f1 x0 b0
 replace d1:=ad (2*PRM+1) (2*PRM+2) (by omega) (by omega) d1 f1 x0 b1
 replace d2:=ad (2*PRM+1) (2*PRM+2) (by omega) (by omega) d2 f1 x0 b2
 replace d3:=ad (2*PRM+1) (2*PRM+2) (by omega) (by omega) d3 f1 x0 b3
 refine pro.g1 s _ _ _ _ x1 hb ⟨d0,d1,d2,d3⟩ ?_
 replace d0:=ad (2*PRM+2) (2*PRM+3) (by omega) (by omega) d0 f2 x1 b1
 replace d1:=ad (2*PRM+2) (2*PRM+3) (by omega) (by omega) d1 f1 x1 b0
 replace d2:=ad (2*PRM+2) (2*PRM+3) (by omega) (by omega) d2 f2 x1 b3
 replace d3:=ad (2*PRM+2) (2*PRM+3) (by omega) (by omega) d3 f1 x1 b2
 refine pro.g2 s _ _ _ _ x2 hb ⟨d0,d1,d2,d3⟩ ?_
 replace d0:=ad (2*PRM+3) (2*PRM+4) (by omega) (by omega) d0 f3 x2 b2
 replace d1:=ad (2*PRM+3) (2*PRM+4) (by omega) (by omega) d1 f3 x2 b3
 replace d2:=ad (2*PRM+3) (2*PRM+4) (by omega) (by omega) d2 f1 x2 b0
 replace d3:=ad (2*PRM+3) (2*PRM+4) (by omega) (by omega) d3 f1 x2 b1
 refine pro.g3 s _ _ _ _ x3 hb ⟨d0,d1,d2,d3⟩ ?_
 exact .end (f:=5) pro.envok pro.lsok (pro.r4 _) (fun q=>by cases q) rfl
def PrS.fin (s:PrS):PrS:=s.wc (((((vl s.cn0 s.cs0+1*(vl s.xn0 s.xs0*vl s.bn0 s.bs0))+2*(vl s.xn1 s.xs1*vl s.bn1 s.bs1))+3*(vl s.xn2 s.xs2*vl s.bn2 s.bs2))+6*(vl s.xn3 s.xs3*vl s.bn3 s.bs3))) (((((vl s.cn1 s.cs1+1*(vl s.xn0 s.xs0*vl s.bn1 s.bs1))+1*(vl s.xn1 s.xs1*vl s.bn0 s.bs0))+3*(vl s.xn2 s.xs2*vl s.bn3 s.bs3))+3*(vl s.xn3 s.xs3*vl s.bn2 s.bs2))) (((((vl s.cn2 s.cs2+1*(vl s.xn0 s.xs0*vl s.bn2 s.bs2))+2*(vl s.xn1 s.xs1*vl s.bn3 s.bs3))+1*(vl s.xn2 s.xs2*vl s.bn0 s.bs0))+2*(vl s.xn3 s.xs3*vl s.bn1 s.bs1))) (((((vl s.cn3 s.cs3+1*(vl s.xn0 s.xs0*vl s.bn3 s.bs3))+1*(vl s.xn1 s.xs1*vl s.bn2 s.bs2))+1*(vl s.xn2 s.xs2*vl s.bn1 s.bs1))+1*(vl s.xn3 s.xs3*vl s.bn0 s.bs0)))
def pro.need (s:PrS):Bool:=szB PRM s.xn0 s.xs0&&szB PRM s.xn1 s.xs1&&szB PRM s.xn2 s.xs2&&szB PRM s.xn3 s.xs3&&szB PRM s.bn0 s.bs0&&szB PRM s.bn1 s.bs1&&szB PRM s.bn2 s.bs2&&szB PRM s.bn3 s.bs3&&szB (2*PRM+1) s.cn0 s.cs0&&szB (2*PRM+1) s.cn1 s.cs1&&szB (2*PRM+1) s.cn2 s.cs2&&szB (2*PRM+1) s.cn3 s.cs3
noncomputable def pro.lt (s:PrS):LT:= .got (pro.need s) (.exit 0) (pro.st 4 s.fin)
theorem pro.lp {N:Nat→Prop} (s:PrS) {x:X} {S':St} (h:(pro.lt s).at=some (x,S')):Lq Tryz.prog N pro.code (pro.st 0 s) x S':=by
 obtain ⟨hn,rfl,rfl⟩:=Fk h
 simp only [pro.need,Bool.and_eq_true] at hn
 obtain ⟨⟨⟨⟨⟨⟨⟨⟨⟨⟨⟨x0,x1⟩,x2⟩,x3⟩,b0⟩,b1⟩,b2⟩,b3⟩,c0⟩,c1⟩,c2⟩,c3⟩:=hn
 have:=pro.go (N:=N) s _ _ _ _ ⟨x0,x1,x2,x3⟩ ⟨b0,b1,b2,b3⟩ ⟨(GP c0).1,(GP c1).1,(GP c2).1,(GP c3).1⟩
 have e:s.wc (vl s.cn0 s.cs0) (vl s.cn1 s.cs1) (vl s.cn2 s.cs2) (vl s.cn3 s.cs3)=s:=by
  unfold PrS.wc
  simp only [(GP c0).2,(GP c1).2,(GP c2).2,(GP c3).2]
 rw [e] at this
 exact this
def pro.of (S:St):PrS:= {pr.of S with un0:=false,us0:=⟨#[]⟩,yn0:=false,ys0:=⟨#[]⟩,yn1:=false,ys1:=⟨#[]⟩,yn2:=false,ys2:=⟨#[]⟩,yn3:=false,ys3:=⟨#[]⟩}
def pro.chk (S:St):Bool:=Nat.beq S.tmps.length 62&&(Nat.beq S.nxt 112&&(isP (RX.nth S.tmps 2) 0&&(isP (RX.nth S.tmps 3) 16&&(isP (RX.nth S.tmps 4) 32&&(isP (RX.nth S.tmps 5) 48&&(isA 4 (RX.nth S.tmps 12)&&(isI (RX.nth S.tmps 13)&&
 (isB 27 5 (RX.look S.heap 0)&&(isB 27 5 (RX.look S.heap 16)&&(isZ 27 5 (RX.look S.heap 32)&&(isB 25 4 (RX.look S.heap 48)&&ieq (iA (RX.nth S.tmps 13)) 0)))))))))))
noncomputable def pro.t:LSpec:=fun S=>bif pro.chk S then some (pro.lt (pro.of S)) else none
theorem RB {α:Type} {a0 a1 a2 a3 a4 a5 b0 b1 b2 b3 b4 b5:α} (h0:a0=b0) (h1:a1=b1) (h2:a2=b2) (h3:a3=b3) (h4:a4=b4) (h5:a5=b5):[a0,a1,a2,a3,a4,a5]=[b0,b1,b2,b3,b4,b5]:=by subst h0 h1 h2 h3 h4 h5; rfl
theorem RD {α:Type} {a0 a1 a2 a3 b0 b1 b2 b3:α} (h0:a0=b0) (h1:a1=b1) (h2:a2=b2) (h3:a3=b3):[a0,a1,a2,a3]=[b0,b1,b2,b3]:=by subst h0 h1 h2 h3; rfl
theorem pro.lok {N:Nat→Prop} :LOKn Tryz.prog N pro.code pro.t:=by
 refine GO fun S lt x S' ht hat=> ?_
 unfold pro.t at ht
 cases hb:pro.chk S with
 |false=>rw [hb] at ht; cases ht
 | true=>
  rw [hb] at ht
  injection ht with ht
  subst ht
  simp only [pro.chk,Bool.and_eq_true] at hb
  obtain ⟨hl,hn,h2,h3,h4,h5,h12,h13,g0,g16,g32,g48,e1⟩:=hb
  have e1:=H9.1 e1
  have h13:=Nr h13
  rw [e1] at h13
  refine .into 62 [2,3,4,5,12,13] [0,16,32,48] hl (Nat.eq_of_beq_eq_true hn) ?_ ?_ rfl (pro.lp (pro.of S) hat)
  ·simp only [List.map_cons,List.map_nil]
   rw [It h2,It h3,It h4,It h5,h13]
   exact RB rfl rfl rfl rfl (PW h12) rfl
  ·simp only [List.map_cons,List.map_nil]
   exact RD (K7 g0) (K7 g16) (SM g32) (K7 g48)
end Go.Proofs.YtphlckkbihmlnaaGreatDoor.G
end
section
namespace Go.Proofs.YtphlckkbihmlnaaGreatDoor.G
set_option maxRecDepth 100000
open Go Go.Proofs RX
def LIM:Nat:=4000000000
theorem Lv {j k:Nat} {a b:Int} (ha:Bd j a) (hb:Bd k b) (hj:j≤LIM) (hk:k≤LIM):Fe.pre (dI a).1 (dI a).2 (dI b).1 (dI b).2=true:=by
 unfold LIM at hj hk
 simp only [Fe.pre,IX ha (by omega),IX hb (by omega),Bool.and_self]
theorem Jc {j k:Nat} {a b:Int} (ha:Bd j a) (hb:Bd k b) (hj:j≤LIM) (hk:k≤LIM):Cb.pre (dI a).1 (dI a).2 (dI b).1 (dI b).2=true:=by
 unfold LIM at hj hk
 simp only [Cb.pre,IX ha (by omega),IX hb (by omega),Bool.and_self]
theorem O7 {j k:Nat} {a b:Int} (ha:Bd j a) (hb:Bd k b) (hj:j≤2*LIM) (hk:k≤2*LIM):Dt.pre (dI a).1 (dI a).2 (dI b).1 (dI b).2=true:=by
 unfold LIM at hj hk
 simp only [Dt.pre,Hy ha (by omega),Hy hb (by omega),Bool.and_self]
theorem Q3 {j k:Nat} {a b:Int} (ha:Bd j a) (hb:Bd k b) (hj:j≤2*LIM) (hk:k≤2*LIM):Fd.pre (dI a).1 (dI a).2 (dI b).1 (dI b).2=true:=by
 unfold LIM at hj hk
 simp only [Fd.pre,Hy ha (by omega),Hy hb (by omega),Bool.and_self]
theorem cmp_pre {j k:Nat} {a b:Int} (ha:Bd j a) (hb:Bd k b) (hj:j≤2*LIM) (hk:k≤2*LIM):Ff.pre (dI a).1 (dI a).2 (dI b).1 (dI b).2=true:=by
 unfold LIM at hj hk
 simp only [Ff.pre,Hy ha (by omega),Hy hb (by omega),Bool.and_self]
theorem dm_pre {j k:Nat} {a b:Int} (ha:Bd j a) (hb:Bd k b) (hj:j≤LIM) (hk:k≤LIM):Ee.pre (dI a).1 (dI a).2 (dI b).1 (dI b).2=true:=by
 unfold LIM at hj hk
 simp only [Ee.pre,IX ha (by omega),IX hb (by omega),Bool.and_self]
theorem Oh (n:Int):Cu n=dI n:=rfl
theorem of_pre {n:Int} (h: -9223372036854775808≤n) (h':n≤9223372036854775807):Cu.pre n=true:=by
 simp [Cu.pre,h,h']
theorem Ls:Cu.pre 1=true:=rfl
theorem Ey {α:Type} {o:Option α} {v:α} (h:o=some v):o.isSome=true:=by rw [h]; rfl
theorem Fq {α:Type} [Inhabited α] {o:Option α} {v:α} (h:o=some v):o.getD default=v:=by rw [h]; rfl
structure Q where
 (c0 c1 c2 c3 d:Int)
deriving DecidableEq
abbrev T10:=TY5
def C5 (q:Q):T10:=((dI q.c0).1,(dI q.c0).2,(dI q.c1).1,(dI q.c1).2,(dI q.c2).1,(dI q.c2).2,(dI q.c3).1,(dI q.c3).2,(dI q.d).1,(dI q.d).2)
def gg (c0 c1 c2 c3 d:Int):Int:=((Int.gcd ((Int.gcd ((Int.gcd ((Int.gcd d c0:Nat):Int) c1:Nat):Int) c2:Nat):Int) c3:Nat):Int)
def Q.g (q:Q):Int:=gg q.c0 q.c1 q.c2 q.c3 q.d
def Q.ok (q:Q):Bool:=decide (0<q.d)&&q.g==1
def Q.zero:Q:=⟨0,0,0,0,0⟩
def low (q:Q):Q:=let g:=if q.d<0 then -q.g else q.g; ⟨q.c0/g,q.c1/g,q.c2/g,q.c3/g,q.d/g⟩
structure Q.Bd (k:Nat) (q:Q):Prop where
 c0:G.Bd k q.c0
 c1:G.Bd k q.c1
 c2:G.Bd k q.c2
 c3:G.Bd k q.c3
 d:G.Bd k q.d
theorem Q.Bd.mono {j k:Nat} {q:Q} (h:q.Bd j) (hk:j≤k):q.Bd k:=⟨h.c0.mono hk,h.c1.mono hk,h.c2.mono hk,h.c3.mono hk,h.d.mono hk⟩
theorem JL {j k:Nat} {a b:Int} (ha:Bd k a) (hb:Bd k b):Bd k ((Int.gcd a b:Nat):Int):=by
 by_cases h:a=0
 ·subst h
  rw [Int.gcd_zero_left]
  exact hb.le (by omega)
 ·refine ha.le ?_
  have:=Nat.le_of_dvd (by omega) (Int.gcd_dvd_natAbs_left a b)
  omega
theorem Q.Bd.g {k:Nat} {q:Q} (h:q.Bd k):G.Bd k q.g:=JL (j:=k) (JL (j:=k) (JL (j:=k) (JL (j:=k) h.d h.c0) h.c1) h.c2) h.c3
theorem LG (c0 c1 c2 c3 d:Int):0≤gg c0 c1 c2 c3 d:=by unfold gg; omega
theorem Nu (c0 c1 c2 c3 d:Int):gg c0 c1 c2 c3 d∣d∧gg c0 c1 c2 c3 d∣c0∧gg c0 c1 c2 c3 d∣c1∧gg c0 c1 c2 c3 d∣c2∧gg c0 c1 c2 c3 d∣c3:=by
 unfold gg
 have h3:=Int.gcd_dvd_left ((Int.gcd ((Int.gcd ((Int.gcd d c0:Nat):Int) c1:Nat):Int) c2:Nat):Int) c3
 have h3':=Int.gcd_dvd_right ((Int.gcd ((Int.gcd ((Int.gcd d c0:Nat):Int) c1:Nat):Int) c2:Nat):Int) c3
 have h2:=Int.gcd_dvd_left ((Int.gcd ((Int.gcd d c0:Nat):Int) c1:Nat):Int) c2
 have h2':=Int.gcd_dvd_right ((Int.gcd ((Int.gcd d c0:Nat):Int) c1:Nat):Int) c2
 have h1:=Int.gcd_dvd_left ((Int.gcd d c0:Nat):Int) c1
 have h1':=Int.gcd_dvd_right ((Int.gcd d c0:Nat):Int) c1
 have h0:=Int.gcd_dvd_left d c0
 have h0':=Int.gcd_dvd_right d c0
 exact ⟨Int.dvd_trans h3 (Int.dvd_trans h2 (Int.dvd_trans h1 h0)),Int.dvd_trans h3 (Int.dvd_trans h2 (Int.dvd_trans h1 h0')),Int.dvd_trans h3 (Int.dvd_trans h2 h1'),Int.dvd_trans h3 h2',h3'⟩
theorem dvd_gg {x c0 c1 c2 c3 d:Int} (h:x∣d) (h0:x∣c0) (h1:x∣c1) (h2:x∣c2) (h3:x∣c3):x∣gg c0 c1 c2 c3 d:=by
 unfold gg
 exact Int.dvd_coe_gcd (Int.dvd_coe_gcd (Int.dvd_coe_gcd (Int.dvd_coe_gcd h h0) h1) h2) h3
theorem SS {c0 c1 c2 c3 d:Int} (h:d≠0):0<gg c0 c1 c2 c3 d:=by
 have h1:=LG c0 c1 c2 c3 d
 have h2:=(Nu c0 c1 c2 c3 d).1
 by_cases h0:gg c0 c1 c2 c3 d=0
 ·rw [h0] at h2
  exact absurd (Int.zero_dvd.1 h2) h
 ·omega
theorem SW {a b:Int} (hb:b≠0) (h:b∣a):fq a b=a/b:=by
 obtain ⟨c,rfl⟩:=h
 unfold fq
 split
 ·rfl
 ·rw [Int.mul_ediv_cancel_left _ hb,←Int.mul_neg,show b* -c=(-b)*c by rw [Int.mul_neg,Int.neg_mul],Int.mul_ediv_cancel_left _ (by omega)]
theorem Kl {k:Nat} {a b:Int} (ha:Bd k a) (hb:b≠0) (h:b∣a):Bd k (a/b):=by
 obtain ⟨c,rfl⟩:=h
 rw [Int.mul_ediv_cancel_left _ hb]
 refine ha.le ?_
 rw [Int.natAbs_mul]
 exact Nat.le_mul_of_pos_left _ (by omega)
def sg_ (q:Q):Int:=if q.d<0 then -q.g else q.g
theorem OI {q:Q} (h:q.d≠0):sg_ q≠0:=by
 have:0<q.g:=SS h
 unfold sg_; split<;>omega
theorem M9 (q:Q):sg_ q∣q.d∧sg_ q∣q.c0∧sg_ q∣q.c1∧sg_ q∣q.c2∧sg_ q∣q.c3:=by
 have h:=Nu q.c0 q.c1 q.c2 q.c3 q.d
 unfold sg_
 split
 ·exact ⟨(Int.neg_dvd).2 h.1,(Int.neg_dvd).2 h.2.1,(Int.neg_dvd).2 h.2.2.1,(Int.neg_dvd).2 h.2.2.2.1,(Int.neg_dvd).2 h.2.2.2.2⟩
 ·exact h
theorem No {k:Nat} {q:Q} (h:q.Bd k) (hd:q.d≠0):(low q).Bd k:=by
 have hn:=OI hd
 obtain ⟨d,d0,d1,d2,d3⟩:=M9 q
 exact ⟨Kl h.c0 hn d0,Kl h.c1 hn d1,Kl h.c2 hn d2,Kl h.c3 hn d3,Kl h.d hn d⟩
theorem SR (m c0 c1 c2 c3 d:Int):gg (m*c0) (m*c1) (m*c2) (m*c3) (m*d)=m.natAbs*gg c0 c1 c2 c3 d:=by
 unfold gg
 have key:∀(m n:Int) (a b:Int),m.natAbs=n.natAbs→Int.gcd (m*a) (n*b)=m.natAbs*Int.gcd a b:=fun m n a b h=>by
  rw [Int.gcd_eq_natAbs_gcd_natAbs,Int.natAbs_mul,Int.natAbs_mul,←h,Nat.gcd_mul_left,←Int.gcd_eq_natAbs_gcd_natAbs]
 have k2:∀(x:Nat) (c:Int),Int.gcd ((m.natAbs*x:Nat):Int) (m*c)=m.natAbs*Int.gcd (x:Int) c:=fun x c=>by
  rw [Int.natCast_mul]
  exact key _ m _ _ (by omega)
 rw [key m m d c0 rfl,k2,k2,k2,Int.natCast_mul]
theorem PT {q:Q} (hd:q.d≠0):(low q).ok=true:=by
 have hn:=OI hd
 have hg:0<q.g:=SS hd
 obtain ⟨⟨d,e⟩,⟨a0,e0⟩,⟨a1,e1⟩,⟨a2,e2⟩,⟨a3,e3⟩⟩:=M9 q
 have l:low q=⟨a0,a1,a2,a3,d⟩:=by
  show (⟨q.c0/sg_ q,q.c1/sg_ q,q.c2/sg_ q,q.c3/sg_ q,q.d/sg_ q⟩:Q)=_
  have f:∀ {x y:Int},x=sg_ q*y→x/sg_ q=y:=fun h=>by rw [h,Int.mul_ediv_cancel_left _ hn]
  rw [f e,f e0,f e1,f e2,f e3]
 rw [l]
 have hs:q.g=(sg_ q).natAbs*gg a0 a1 a2 a3 d:=by
  show gg q.c0 q.c1 q.c2 q.c3 q.d=_
  rw [e,e0,e1,e2,e3,SR]
 have ha:((sg_ q).natAbs:Int)=q.g:=by unfold sg_; split<;>omega
 rw [ha] at hs
 have h1:gg a0 a1 a2 a3 d=1:=by
  have:q.g*gg a0 a1 a2 a3 d=q.g*1:=by omega
  exact Int.eq_of_mul_eq_mul_left (by omega) this
 have h2:0<d:=by
  by_cases hneg:q.d<0
  ·have hsg:sg_ q= -q.g:=by unfold sg_; rw [if_pos hneg]
   rw [hsg] at e
   have:=Int.pos_of_mul_neg_right (a:= -q.g) (b:=d) (by omega) (by omega)
   exact this
  ·have hsg:sg_ q=q.g:=by unfold sg_; rw [if_neg hneg]
   rw [hsg] at e
   exact Int.pos_of_mul_pos_right (a:=q.g) (b:=d) (by omega) (by omega)
 simp [Q.ok,Q.g,h1,h2]
end Go.Proofs.YtphlckkbihmlnaaGreatDoor.G
end
