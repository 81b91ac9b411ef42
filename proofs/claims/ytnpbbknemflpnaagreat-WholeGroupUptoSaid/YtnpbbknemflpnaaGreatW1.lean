/- Parts Base, Mem, Sx, Sxd, Sxe, Bits, Div64, Div64b, Radix, Nat, NatB, Mulnat, MulnatB, MulnatC, MulnatD, Divnat, DivnatB, Shr, Long, joined. -/
import Derived.WalkKit
import Derived.WalkSpells
import Derived.Deep.Draws
import Derived.Lib.Hide
import Derived.Laws.CopyOwn
import Derived.Deep.QuietTactic
import Derived.BigQuiet
import Derived.Deep.RegionHeld3
import Derived.Deep.RegionWith
import Derived.Deep.DeepCutAuto
import Derived.Deep.DeepMust
import Derived.Deep.DeepFit
import Derived.Handy
import Derived.OwnWalk
import Derived.Maps.AppendAt
import Derived.Test.YtnpbbknemflpnaaGreatShelf
import Derived.Shelf.Spec.BitsCarry
import Derived.Lib.ItoaNum
import Derived.Deep.CutBlock
import Derived.Test.YtnpbbknemflpnaaGreatProg
import Derived.WalkMore

open Go.Act renaming put → kK
open Go renaming Addr → a6, BinOp → kJ, Calls → aR, Code → fX, Ending → dI, Exit → cE, IntKind → j9, Oper → aP, Operand → cA, Program → bP, ResultVar → pF, TypeId → aO, Value → aF, World → a0, bodyPost_ret → eV, run_underlying → o3
open Go.Addr renaming add → mZ
open Array renaming getD_eq_getD_getElem? → kZ, getElem?_eq_some_iff → jW, getElem?_replicate → vH, getElem?_setIfInBounds_ne → zZ, replicate → kY
open Go.RowKit.Below renaming heap_setCell → G9
open BitVec renaming ofInt → oC
open Bool renaming and_eq_true → dU, not_eq_true' → vG, or_eq_true → mY
open Go.Builtin renaming append_ → lY, firstCells → G8
open Classical renaming choose → jB, choose_spec → lX
open Go.Deferred renaming ofValue → vF
open Go.Exit renaming inBlock → lW
open Go.Instr renaming alloc → vE, loadAt → vD, storeAt → vC
open Int renaming natCast_mul → jA, tdiv_eq_ediv_of_nonneg → vB, toNat_natCast → jV
open Go.IntKind renaming bits → pP, signed → pO, wrap → sG
open Go.Lib renaming hid → aU
open List renaming all_eq_true → eZ, any_eq_true → zX, contains_iff_mem → j8, countP_cons → vA, countP_le_length → uZ, drop_eq_getElem_cons → zW, drop_zero → lU, eq_nil_iff_forall_not_mem → uY, eq_nil_of_length_eq_zero → uX, filter_append → G7, getD_eq_getElem?_getD → bO, getElem?_drop → oA, getElem?_eq_getElem → d8, getElem?_eq_none → mX, getElem?_eq_some_iff → fF, getElem?_map → pM, getElem?_take → iN, getElem_of_mem → zV, length_cons → iE, length_drop → kX, length_eq_zero_iff → zU, length_take → dH, map_drop → zT, map_take → o9, mem_cons → sC, mem_of_mem_take → zS, mem_range → gC, range → d7, replicate → dL, take_append_drop → uV
open Nat renaming add_assoc → jU, add_mul → dS, add_mul_div_left → G6, add_mul_mod_self_left → G5, add_sub_cancel → zR, add_zero → eA, beq → lT, div_add_mod → lS, div_eq_of_lt → gZ, div_le_self → iM, div_lt_iff_lt_mul → G4, div_lt_of_lt_mul → s8, div_lt_self → pK, eq_of_beq_eq_true → o8, eq_zero_or_pos → kH, le_of_not_lt → kW, le_refl → aI, le_trans → a7, lt_mul_div_succ → s7, lt_of_le_of_lt → o7, lt_of_lt_of_le → cJ, lt_of_not_le → uU, lt_or_ge → eB, min_eq_left → iD, mod_add_div → mV, mod_eq_of_lt → gP, mod_lt → j7, mul_add → dC, mul_add_div → lR, mul_add_mod → rZ, mul_assoc → cW, mul_comm → cY, mul_div_mul_right → zQ, mul_le_mul → fV, mul_le_mul_left → j6, mul_le_mul_right → dX, mul_lt_mul'' → uT, mul_lt_mul_of_pos_right → pJ, mul_mod_mul_right → uR, mul_one → gY, mul_pos → pI, mul_right_comm → rY, mul_succ → uQ, mul_zero → iC, or_lt_two_pow → mU, pow_add → eK, pow_le_pow_right → lQ, pow_lt_pow_iff_right → G3, pow_pos → jT, pow_succ → eW, strongRecOn → pH, sub_add_cancel → jS, sub_zero → o6, succ_le_of_lt → o5, succ_mul → gO, two_pow_pos → kV, zero_add → fE, zero_le → bX
open Ne renaming symm → iB
open Go.Next renaming value → iA
open Go.Op renaming intArith → zP, intDiv → rX
open Go.Oper renaming upon → jR, wp → jQ
open Option renaming getD_some → uP, map_some → zO
open Option.some renaming inj → iL, injEq → fB
open Or renaming inl → bE, inr → bK
open Go.Region renaming binds → j5, ready → lP, wanted → pG
open Go.Result renaming andThen_ok → eD
open Go.Sem renaming run_bind → c8, run_pure → fO
open Go.Proofs.Tryz renaming prog → aJ
open Go.Value renaming int → kU, pointer → rW
open Go.World renaming setCell → o4
namespace Go.Proofs.YtnpbbknemflpnaaGreat
set_option maxHeartbeats 4000000
set_option maxRecDepth 20000
abbrev a9(g:Nat)(o:Nat):Value:=.pointer (some ⟨g,o,none⟩)
abbrev AI(k:Int):Value:=.int .i64 k
abbrev AT(k:Int):Value:=.int .u64 k
abbrev By(A:Option Addr)(n c:Nat):Value:=.slice A n c
abbrev BY:Value:=.bool true
abbrev Hs:Value:=.bool false
theorem Ht:True:=trivial
theorem G.{z}{α:Sort z}{a:α}:a=a:=rfl
abbrev O(s:Bool)(A:Option Addr)(n c:Nat):Value:=.agg #[.bool s,.slice A n c]
abbrev a5(s:Bool)(A:Option Addr)(n c:Nat)(t:Bool)(B:Option Addr)(m d:Nat):Value:=.agg #[.bool s,.slice A n c,.bool t,.slice B m d]
abbrev a4(s:Bool)(A:Option Addr)(n c:Nat):List Value:=[.bool s,.slice A n c]
variable {A B dp sp:Option a6}{D K L N U0 V Y b base c cap cap' cc d g hi i id j k lo2 m n n' q r r0 s u u0 u1 u2 un un0 un1 un10 v0 v1 x y yn0 yn1 yy z:Nat}{P:bP}{T:Type}{a:Act}{after:Array Edge}{args cs us vs:List aF}{ds fl js l l2 ql st xs ys zs:List Nat}{dss:List (List Nat)}{dst e:Option Tmp}{er:Int}{f:FuncId}{fn:Func}{gd guard:Option (Nat×Bool)}{listed:Array Bool}{lk:List (Nat × Nat × Nat)}{o:aP}{ol rest:List aP}{op:kJ}{ops:Array aP}{p:a6}{ps:List (Nat×Nat)}{rl:List pF}{t' ty:aO}{ts:Array aO}{v vx vy:aF}{w w' w0 w1 wt:a0}
section
def WB:Nat:=18446744073709551616
theorem eQ:0<WB:=by decide
theorem cQ:WB=18446744073709551616:=rfl
theorem zG:2≤WB:=by decide
def nv:List Nat→Nat
 | []=>0
 | x::r=>x+WB*nv r
def Wf (xs:List Nat):Prop:=∀x∈xs,x<WB
theorem mF (x:Nat)(r:List Nat):nv (x::r)=x+WB*nv r:=rfl
theorem wY (xs ys:List Nat):nv (xs++ys)=nv xs+WB^xs.length*nv ys:=by
 induction xs with
 | nil=>simp [nv]
 | cons x r ih=>
  simp only [List.cons_append,nv,ih,iE,eW]
  rw [dC,←cW,cY WB (WB^r.length),jU]
theorem i5 (h:Wf xs):nv xs<WB^xs.length:=by
 induction xs with
 | nil=>simp [nv]
 | cons x r ih=>
  have hx:x<WB:=h x (by simp)
  have hr:=ih (fun y hy=>h y (by simp [hy]))
  simp only [nv,iE,eW]
  have:WB*nv r+WB≤WB*WB^r.length:=by
   have:=j6 WB (o5 hr)
   rw [uQ] at this;exact this
  rw [cY (WB^r.length)]
  omega
theorem wV (n:Nat):nv (dL n 0)=0:=by
 induction n with
 | zero=>rfl
 | succ n ih=>simp [List.replicate_succ,nv,ih]
theorem K3 (xs:List Nat)(x:Nat):nv (xs++ [x])=nv xs+WB^xs.length*x:=by
 rw [wY];simp [nv]
def m6:Nat→Nat→List Nat
 | 0,_=> []
 | f+1,n=>if n=0 then [] else n%WB::m6 f (n/WB)
def wd (n:Nat):List Nat:=m6 n n
theorem AU (f:Nat):∀(g n:Nat),n≤f→n≤g→m6 f n=m6 g n:=by
 induction f with
 | zero=>
  intro g n h _
  have:n=0:=by omega
  subst this
  cases g <;> simp [m6]
 | succ f ih=>
  intro g n h hg
  by_cases h0:n=0
  ·subst h0;cases g <;> simp [m6]
  ·cases g with
   | zero=>omega
   | succ g=>
    have hlt:n/WB<n:=pK (by omega) (by decide)
    simp only [m6,h0,if_false]
    rw [ih g (n/WB) (by omega) (by omega)]
theorem lA:wd 0= []:=rfl
theorem m5 (h:n≠0):wd n=n%WB::wd (n/WB):=by
 have o:n/WB<n:=pK (by omega) (by decide)
 unfold wd
 conv=>lhs;rw [AU n (n+1) n (aI _) (by omega)]
 simp only [m6,h,if_false]
 rw [AU n (n/WB) (n/WB) (by omega) (aI _)]
theorem vT {p:Nat→Prop}(h0:p 0)(hs:∀n,n≠0→p (n/WB)→p n)(n:Nat):p n:=by
 induction n using pH with
 | ind n ih=>
  by_cases h:n=0
  ·subst h;exact h0
  ·exact hs n h (ih _ (pK (by omega) (by decide)))
theorem dQ (n:Nat):nv (wd n)=n:=by
 induction n using vT with
 | h0=>rfl
 | hs n h ih=>rw [m5 h,mF,ih];exact mV n WB
theorem rL (n:Nat):Wf (wd n):=by
 induction n using vT with
 | h0=>intro x hx;cases hx
 | hs n h ih=>
  rw [m5 h]
  intro x hx
  cases sC.1 hx with
  | inl e=>subst e;exact j7 _ eQ
  | inr e=>exact ih x e
theorem H7:wd n= []↔n=0:=by
 constructor
 ·intro h;rw [←dQ n,h];rfl
 ·rintro rfl;rfl
theorem k9:(wd n).length=0↔n=0:=by
 rw [zU];exact H7
theorem AS:∀{xs:List Nat},Wf xs→(∀h:xs≠ [],xs.getLast h≠0)→wd (nv xs)=xs
 | [],_,_=>rfl
 | [x],hw,ht=>by
  have hx:x<WB:=hw x (by simp)
  have H:x≠0:=ht (by simp)
  simp only [nv,iC,eA]
  rw [m5 H,gP hx,gZ hx,lA]
 | x::y::r,hw,ht=>by
  have hx:x<WB:=hw x (by simp)
  have ih:=AS (xs:=y::r) (fun z I=>hw z (by simp [I])) (fun h=>by have:=ht (by simp);simpa [List.getLast_cons] using this)
  have o:nv (y::r)≠0:=by
   intro e
   rw [e,lA] at ih
   cases ih
  have hn:nv (x::y::r)≠0:=by
   rw [mF]
   have:0<WB*nv (y::r):=pI eQ (by omega)
   omega
  rw [m5 hn,mF,G5,gP hx,G6 _ _ eQ,gZ hx,fE,ih]
theorem H6 (hw:Wf xs)(ht:xs.length=0∨xs.getD (xs.length-1) 0≠0):wd (nv xs)=xs:=by
 refine AS hw (fun h=>?_)
 have hl:xs.length≠0:=by simpa using h
 rcases ht with h' | h'
 ·exact absurd h' hl
 ·rw [List.getLast_eq_getElem]
  have:xs.length-1<xs.length:=by omega
  rwa [bO,d8 this,uP] at h'
theorem nW (h:Wf xs)(k:Nat):Wf (xs.take k):=fun x o=>h x (zS o)
theorem zF (h:Wf xs)(k:Nat):Wf (xs.drop k):=fun x o=>h x (List.mem_of_mem_drop o)
theorem FT (h:Wf xs)(k:Wf ys):Wf (xs++ys):=fun x o=>by
 rcases List.mem_append.1 o with e | e
 ·exact h x e
 ·exact k x e
theorem zE (h:Wf xs)(i:Nat):xs.getD i 0<WB:=by
 by_cases hi:i<xs.length
 ·rw [bO,d8 hi];exact h _ (List.getElem_mem hi)
 ·rw [bO,mX (by omega)];exact eQ
theorem R4:Wf []:=fun x h=>by cases h
theorem lN (n:Nat):Wf (dL n 0):=fun x h=>by rw [(List.mem_replicate.1 h).2];exact eQ
theorem R3 (h:x<WB):Wf [x]:=fun y o=>by rw [List.mem_singleton.1 o];exact h
theorem fD (h:Wf xs)(i:Nat)(hx:x<WB):Wf (xs.set i x):=fun y o=>by
 rcases List.mem_or_eq_of_mem_set o with e | e
 ·exact h y e
 ·rw [e];exact hx
theorem B6 {α:Type}(xs:List α)(k:Nat)(h:k<xs.length)(d:α):xs.take (k+1)=xs.take k++ [xs.getD k d]:=by
 rw [List.take_succ_eq_append_getElem h,bO,d8 h];rfl
theorem dY (xs:List Nat)(k:Nat)(h:k<xs.length):nv (xs.take (k+1))=nv (xs.take k)+WB^k*xs.getD k 0:=by
 rw [B6 xs k h 0,K3,dH,iD (by omega)]
theorem lF (xs:List Nat)(k:Nat)(h:k≤xs.length):nv xs=nv (xs.take k)+WB^k*nv (xs.drop k):=by
 have:=wY (xs.take k) (xs.drop k)
 rw [uV,dH,iD h] at this
 exact this
theorem oM (xs:List Nat)(k:Nat)(h:k<xs.length)(h0:xs.getD k 0=0):nv (xs.take (k+1))=nv (xs.take k):=by
 rw [dY xs k h,h0];simp
theorem jI (h:Wf xs)(k:Nat):nv (xs.take k)<WB^k:=by
 have o:=i5 (nW h k)
 have H:WB^(xs.take k).length≤WB^k:=lQ eQ (by rw [dH];omega)
 omega
theorem sM (hw:Wf xs)(hk:k≤xs.length)(hv:nv (xs.take k)=nv xs)(ht:k=0∨xs.getD (k-1) 0≠0):wd (nv xs)=xs.take k:=by
 have hl:(xs.take k).length=k:=by rw [dH];omega
 rw [←hv]
 refine H6 (nW hw k) ?_
 rw [hl]
 rcases ht with h | h
 ·exact bE h
 ·by_cases o:k=0
  ·exact bE o
  ·refine bK ?_
   rw [bO,iN,if_pos (by omega),←bO]
   exact h
theorem jK (h : n < WB ^ k): (wd n).length ≤ k := by
  induction k generalizing n with
  | zero => have : n = 0 := by simp at h; omega
            subst this; simp [lA]
  | succ k ih =>
    by_cases h0 : n = 0
    · subst h0; simp [lA]
    · rw [m5 h0, iE]
      have : n / WB < WB ^ k := by rw [G4 eQ]; rwa [← eW]
      have := ih this
      omega
theorem oR (n:Nat):n<WB^(wd n).length:=by
 have:=i5 (rL n)
 rwa [dQ] at this
theorem C8 (h:n≠0):WB^((wd n).length-1)≤n:=by
 refine kW (fun o=>?_)
 have H:=jK o
 have I:(wd n).length≠0:=fun e=>h (k9.1 e)
 omega
theorem fR (h:Wf xs):(wd (nv xs)).length≤xs.length:=jK (i5 h)
theorem nL {a:Nat}(h:a≤b):(wd a).length≤(wd b).length:=jK (o7 h (oR b))
theorem LK (a b:Nat):(wd (a+b)).length≤max (wd a).length (wd b).length+1:=by
 refine jK ?_
 have H:=oR a
 have hb:=oR b
 have h:WB^(wd a).length≤WB^max (wd a).length (wd b).length:=lQ eQ (Nat.le_max_left _ _)
 have I:WB^(wd b).length≤WB^max (wd a).length (wd b).length:=lQ eQ (Nat.le_max_right _ _)
 rw [eW]
 have o:WB^max (wd a).length (wd b).length*2≤WB^max (wd a).length (wd b).length*WB:=j6 _ zG
 omega
theorem LJ (a b:Nat):(wd (a*b)).length≤(wd a).length+(wd b).length:=by
 refine jK ?_
 rw [eK]
 by_cases h:a=0
 ·subst h;simp only [Nat.zero_mul];exact pI (jT eQ) (jT eQ)
 ·exact uT (oR a) (oR b)
theorem vR (h:x<WB)(h0:x≠0):wd x= [x]:=by
 rw [m5 h0,gP h,gZ h,lA]
theorem m4:∀{xs:List Nat}{m:Nat},Wf xs→m=(wd (nv xs)).length→wd (nv xs)=xs.take m
 | [],m,_,h=>by simp [nv,lA]
 | x::r,m,hw,h=>by
  have hx:x<WB:=hw x (by simp)
  by_cases o:nv (x::r)=0
  ·rw [o,lA] at h⊢
   subst h;rfl
  ·have H:nv (x::r)/WB=nv r:=by rw [mF,G6 _ _ eQ,gZ hx,fE]
   have I:nv (x::r)%WB=x:=by rw [mF,G5,gP hx]
   rw [m5 o,H,I] at h⊢
   obtain⟨k,rfl⟩:∃k,m=k+1:=⟨m-1,by rw [h,iE];rfl⟩
   rw [iE] at h
   rw [List.take_succ_cons,←m4 (fun y J=>hw y (by simp [J])) (by omega)]
def fK (a b:Nat):Int:=if a<b then-1 else if a=b then 0 else 1
theorem EW {a:Nat}(h:a<b):fK a b= -1:=by simp [fK,h]
theorem PX (a:Nat):fK a a=0:=by simp [fK]
theorem EX {a:Nat}(h:b<a):fK a b=1:=by
 unfold fK;rw [if_neg (by omega),if_neg (by omega)]
theorem EY (a b:Nat): -1≤fK a b∧fK a b≤1:=by
 unfold fK;split
 ·omega
 ·split <;> omega
theorem p9 {a:Nat}:fK a b<0↔a<b:=by
 unfold fK;split
 ·simp_all
 ·split <;> simp_all
theorem PW {a:Nat}:0<fK a b↔b<a:=by
 unfold fK;split
 ·simp_all;omega
 ·split <;> simp_all;omega
theorem D3 {a:Nat}(h:(wd a).length<(wd b).length):a<b:=by
 refine uU (fun o=>?_)
 have:=nL o
 omega
theorem CP (hx:Wf xs)(hkx:k<xs.length)(hky:k<ys.length)(h:xs.getD k 0<ys.getD k 0):nv (xs.take (k+1))<nv (ys.take (k+1)):=by
 rw [dY xs k hkx,dY ys k hky]
 have o:=jI hx k
 have H:WB^k*xs.getD k 0+WB^k≤WB^k*ys.getD k 0:=by
  have:=j6 (WB^k) (o5 h)
  rwa [uQ] at this
 omega
theorem PV (hkx:k<xs.length)(hky:k<ys.length)(h:xs.getD k 0=ys.getD k 0):fK (nv (xs.take (k+1))) (nv (ys.take (k+1)))=fK (nv (xs.take k)) (nv (ys.take k)):=by
 rw [dY xs k hkx,dY ys k hky,h]
 unfold fK
 simp only [Nat.add_lt_add_iff_right,Nat.add_right_cancel_iff]
theorem mE (hw:Wf xs)(h:m=(wd (nv xs)).length):nv (xs.take m)=nv xs:=by
 rw [←m4 hw h,dQ]
theorem wX (x:Nat):nv [x]=x:=by simp [nv]
end
section
open Go.RowKit
abbrev bD (x:Nat):aF:= AT (x:Int)
abbrev gX (x:Int):aF:= AI x
theorem JM {k:j9}{a b:Int}(h:a=b):Ending.returned (.int k a)= .returned (.int k b):=by rw [h]
theorem fG {k:j9}{a b:Int}(h:a=b:=by omega):kU k a=kU k b:=by rw [h]
theorem yU (a:a6)(n:Nat):(a.add n).block=a.block:=by unfold mZ;split <;> rfl
theorem pB (a:a6)(i j:Nat):(a.add i).add j=a.add (i+j):=by
 unfold mZ
 by_cases hi:i=0 <;> by_cases hj:j=0 <;> simp [hi,hj,jU]
theorem iZ (g o i:Nat):(⟨g,o,none⟩:a6).add i=⟨g,o+i,none⟩:=by
 unfold mZ;split <;> simp_all
structure Ext (w w':a0):Prop where
 below:Below w.heap.size w w'
theorem Ext.refl (w:a0):Ext w w:=⟨Below.refl _ _⟩
theorem Ext.trans {a b c:a0}(h:Ext a b)(k:Ext b c):Ext a c:=⟨h.below.trans (k.below.mono h.below.size)⟩
theorem Ext.t {a b c:a0}(h : Ext a b)(k : Ext b c): Ext a c := h.trans k
theorem aB {a:a0}: Ext a a := Ext.refl a
theorem Ext.size {a b:a0}(h:Ext a b):a.heap.size≤b.heap.size:=h.below.size
theorem Ext.alloc {a:a0}(h:Ext a w)(o:Obj):Ext a (w.alloc o):=⟨h.below.alloc h.below.size o⟩
theorem Ext.drew {a:a0}(h:Ext a w):Ext a w.drew:=⟨h.below.drew⟩
theorem Ext.drewN {a:a0}(h:Ext a w)(n:Nat):Ext a (w.drewN n):=⟨⟨h.below.os,h.below.tape,h.below.output,h.below.size,h.below.block⟩⟩
theorem Ext.setCell {a:a0}(h:Ext a w)(hp:a.heap.size≤p.block)(u:aF):Ext a (w.setCell p u):=⟨h.below.setCell hp u⟩
theorem Ext.grown {a:a0}{row:Option Nat}(h:Ext a w)(hg:w.grownBy w' row)(hr:∀k,row=some k→a.heap.size≤k):Ext a w':=⟨h.below.grown hg h.below.size hr⟩
theorem Ext.of_grown (hg:w.grownBy w' none):Ext w w':=(Ext.refl w).grown hg (fun _ h=>by cases h)
theorem Ext.cell (h:Ext w w')(hc:w.cell? p=some v):w'.cell? p=some v:=
 (h.below.cell (World.block_lt_of_cell? w p hc)).trans hc
theorem Ext.heap (h:Ext w w'){o:Obj}(hc:w.heap[g]?=some o):w'.heap[g]?=some o:=
 (h.below.block g (jW.1 hc).1).trans hc
structure Upd (g:Nat)(w w':a0):Prop where
 by_:w.grownBy w' (some g)
theorem Upd.ext {a:a0}(h:Upd g w w')(e:Ext a w)(hg:a.heap.size≤g):Ext a w':=e.grown h.by_ (fun k o=>by cases o;exact hg)
theorem Upd.refl (g:Nat)(w:a0):Upd g w w:=⟨World.grownBy.refl _ _⟩
theorem Upd.trans {a b c:a0}(h:Upd g a b)(k:Upd g b c):Upd g a c:=
 ⟨⟨k.by_.os.trans h.by_.os,k.by_.tape.trans h.by_.tape,k.by_.output.trans h.by_.output,a7 h.by_.size k.by_.size,
  fun i hi o=>(k.by_.block i (cJ hi h.by_.size) o).trans (h.by_.block i hi o)⟩⟩
theorem Upd.setCell {a:a0}(h:Upd g a w)(i:Nat)(u:aF):Upd g a (w.setCell ⟨g,i,none⟩ u):=
 h.trans ⟨⟨rfl,rfl,rfl,by simp [o4],fun k _ o=>G9 _ _ _ _ (fun e=>o (by rw [e]))⟩⟩
theorem Upd.drew {a:a0}(h:Upd g a w):Upd g a w.drew:=⟨⟨h.by_.os,h.by_.tape,h.by_.output,h.by_.size,h.by_.block⟩⟩
theorem Upd.then_ext {a:a0}(h:Upd g a w)(e:Ext w w'):Upd g a w':=
 h.trans ⟨⟨e.below.os,e.below.tape,e.below.output,e.below.size,fun k o _=>e.below.block k o⟩⟩
theorem Upd.of_ext (e:Ext w w'):Upd g w w':=(Upd.refl g w).then_ext e
theorem Upd.heap (h:Upd g w w'){o:Obj}(hc:w.heap[k]?=some o)(hne:k≠g):w'.heap[k]?=some o:=
 (h.by_.block k (jW.1 hc).1 (fun e=>hne (iL e))).trans hc
theorem Upd.size (h:Upd g w w'):w.heap.size≤w'.heap.size:=h.by_.size
theorem Upd.cell (h:Upd g w w')(hc:w.cell? p=some v)(hne:p.block≠g):w'.cell? p=some v:=
 h.by_.cell hc (fun e=>hne (iL e))
structure Rv (w:a0)(s:Nat)(A:Option a6)(n cap:Nat)(vs:List aF):Prop where
 len:vs.length=n*s
 le:n≤cap
 max:cap≤maxLen
 get:∀i,i<n*s→∃a,A=some a∧w.cell? (a.add i)=some (vs.getD i undef)
 blk:∀a,A=some a→0<cap→a.block<w.heap.size
theorem Rv.ext (h:Rv w s A n cap vs)(e:Ext w w'):Rv w' s A n cap vs:=
 ⟨h.len,h.le,h.max,fun i hi=>by obtain⟨a,H,o⟩:=h.get i hi;exact⟨a,H,e.cell o⟩,fun a H o=>cJ (h.blk a H o) e.size⟩
theorem Rv.upd (h:Rv w s A n cap vs)(e:Upd g w w')(hne:∀a,A=some a→a.block≠g):Rv w' s A n cap vs:=
 ⟨h.len,h.le,h.max,fun i hi=>by obtain⟨a,o,H⟩:=h.get i hi;exact⟨a,o,e.cell H (by rw [yU];exact hne a o)⟩,fun a o H=>cJ (h.blk a o H) e.size⟩
theorem Rv.nil (w:a0)(s:Nat):Rv w s none 0 0 []:=⟨by simp,aI _,by decide,fun i hi=>by omega,fun a h=>by cases h⟩
theorem Rv.cut (h:Rv w s A n cap vs){l:Nat}(hl:l≤k)(hk:k≤n)(hm:k≤m)(hc:m≤cap):Rv w s (if m=l then A else A.map (·.add (l*s))) (k-l) (m-l) ((vs.take (k*s)).drop (l*s)):=by
 have J:k*s≤n*s:=dX s hk
 have U:l*s≤k*s:=dX s hl
 refine⟨?_,by omega,a7 (by omega) h.max,fun i hi=>?_,fun a o _=>?_⟩
 ·rw [kX,dH,h.len,Nat.sub_mul,iD J]
 ·rw [Nat.sub_mul] at hi
  obtain⟨a,o,H⟩:=h.get (l*s+i) (by omega)
  have I:¬m=l:=fun e=>by
   have:k=l:=by omega
   subst this;omega
  rw [if_neg I,o]
  refine⟨a.add (l*s),rfl,?_⟩
  rw [pB,H]
  congr 1
  simp only [bO,oA]
  rw [iN,if_pos (by omega)]
 ·split at o
  ·exact h.blk a o (by omega)
  ·cases A with
   | none=>cases o
   | some b=>simp only [zO,fB] at o;subst o;rw [yU];exact h.blk b rfl (by omega)
structure Rd (w:a0)(A:Option a6)(n cap:Nat)(xs:List Nat):Prop where
 rv:Rv w 1 A n cap (xs.map bD)
 wf:Wf xs
theorem Rd.ext (h:Rd w A n cap xs)(e:Ext w w'):Rd w' A n cap xs:=⟨h.rv.ext e,h.wf⟩
theorem Rd.upd (h:Rd w A n cap xs)(e:Upd g w w')(hne:∀a,A=some a→a.block≠g):Rd w' A n cap xs:=⟨h.rv.upd e hne,h.wf⟩
theorem Rd.len (h:Rd w A n cap xs):xs.length=n:=by simpa using h.rv.len
theorem Rd.nil (w:a0):Rd w none 0 0 []:=⟨Rv.nil w 1,R4⟩
theorem Rd.get (h:Rd w A n cap xs)(hi:i<n):∃a x,A=some a∧Hid (xs.getD i 0=x)∧x≤18446744073709551615∧w.cell? (a.add i)=some (AT (x:Int)):=by
 obtain⟨a,I,H⟩:=h.rv.get i (by omega)
 have hl:i<xs.length:=by rw [h.len];exact hi
 have o:=zE h.wf i
 refine⟨a,_,I,rfl,by rw [cQ] at o;omega,?_⟩
 rw [H]
 simp [bO,pM,d8 hl]
theorem Rd.cut (h:Rd w A n cap xs){l:Nat}(hl:l≤k)(hk:k≤n)(hm:k≤m)(hc:m≤cap):Rd w (if m=l then A else A.map (·.add l)) (k-l) (m-l) ((xs.take k).drop l):=by
 have:=h.rv.cut hl hk hm hc
 simp only [gY] at this
 refine⟨?_,zF (nW h.wf _) _⟩
 rw [zT,o9]
 exact this
theorem Rd.take (h:Rd w A n cap xs)(hk:k≤n)(hm:k≤m)(hc:m≤cap):Rd w A k m (xs.take k):=by
 have:=h.cut (l:=0) (bX _) hk hm hc
 simp only [o6,lU] at this
 have e:(if m=0 then A else A.map (·.add 0))=A:=by
  have o:∀a:a6,a.add 0=a:=fun a=>by simp [mZ]
  split
  ·rfl
  ·cases A <;> simp [o]
 rwa [e] at this
def Bk (w:a0)(g:Nat)(t:aO)(vs:List aF):Prop:=w.heap[g]?=some (.cells vs.toArray t (0,0))
section
variable {w w':a0}{g:Nat}{t:aO}{vs:List aF}
theorem Bk.lt (h:Bk w g t vs):g<w.heap.size:=(jW.1 h).1
theorem Bk.ext (h:Bk w g t vs)(e:Ext w w'):Bk w' g t vs:=e.heap h
theorem Bk.upd (h:Bk w g t vs)(e:Upd k w w')(hne:g≠k):Bk w' g t vs:=e.heap h hne
theorem Bk.cell (h:Bk w g t vs)(hi:i<vs.length):w.cell? ⟨g,i,none⟩=some (vs.getD i undef):=by
 rw [cell_of_row w g i _ t (0,0) h]
 simp [bO,d8 hi]
theorem Bk.frozen (h:Bk w g t vs)(i:Nat):w.frozen? ⟨g,i,none⟩=false:=by
 unfold Bk at h
 simp [World.frozen?,h]
theorem Bk.new (w:a0)(t:aO)(vs:List aF):Bk (w.alloc (.cells vs.toArray t)) w.heap.size t vs:=heap_alloc_new w _
theorem Bk.new' (w:a0)(t:aO)(cs:Array aF):Bk (w.alloc (.cells cs t)) w.heap.size t cs.toList:=heap_alloc_new w _
theorem Bk.set (h:Bk w g t vs)(i:Nat)(u:aF):Bk (w.setCell ⟨g,i,none⟩ u) g t (vs.set i u):=by
 unfold Bk at h⊢
 simp [o4,Array.getElem?_modify,h]
theorem Bk.far (h:Bk w g t vs)(hp:g≠p.block)(u:aF):Bk (w.setCell p u) g t vs:=(G9 w p u g hp).trans h
theorem Bk.alloc (h:Bk w g t vs)(o:Obj):Bk (w.alloc o) g t vs:=h.ext ((Ext.refl w).alloc o)
theorem Bk.drew (h:Bk w g t vs):Bk w.drew g t vs:=h
theorem Bk.drewN (h:Bk w g t vs)(n:Nat):Bk (w.drewN n) g t vs:=h
theorem Bk.rv (h:Bk w g t vs){o:Nat}(hn:n≤cap)(hc:o+cap≤vs.length)(hm:cap≤maxLen):Rv w 1 (some ⟨g,o,none⟩) n cap ((vs.drop o).take n):=by
 refine⟨by rw [dH,kX];omega,hn,hm,fun i hi=>⟨_,rfl,?_⟩,fun a H _=>by cases H;exact h.lt⟩
 rw [iZ,h.cell (by omega)]
 congr 1
 simp only [bO,iN,oA]
 rw [if_pos (by omega)]
theorem Bk.rd (h:Bk w g t (xs.map bD))(hw:Wf xs){o:Nat}(hn:n≤cap)(hc:o+cap≤xs.length)(hm:cap≤maxLen):Rd w (some ⟨g,o,none⟩) n cap ((xs.drop o).take n):=by
 refine⟨?_,nW (zF hw _) _⟩
 rw [o9,zT]
 exact h.rv hn (by simpa using hc) hm
end
theorem Bk.word {t:aO}(h:Bk w g t (xs.map bD))(hw:Wf xs)(hi:i<xs.length):∃x,Hid (xs.getD i 0=x)∧x≤18446744073709551615∧w.cell? ⟨g,i,none⟩=some (AT (x:Int)):=by
 have o:=zE hw i
 refine⟨_,rfl,by rw [cQ] at o;omega,?_⟩
 rw [h.cell (by simpa using hi)]
 simp [bO,pM,d8 hi]
def Own (w:a0)(base:Nat)(t:aO)(s:Nat)(A:Option a6)(n cap:Nat)(vs:List aF):Prop:=
 (A=none∧n=0∧cap=0∧vs= [])∨∃g cs,A=some ⟨g,0,none⟩∧base≤g∧Bk w g t cs∧n≤cap∧cap≤maxLen∧cs.length=cap*s∧cs.take (n*s)=vs
section
variable {w w':a0}{base:Nat}{t:aO}{s:Nat}{A:Option a6}{n cap:Nat}{vs:List aF}
theorem Own.nil (w:a0)(base:Nat)(t:aO)(s:Nat):Own w base t s none 0 0 []:=bE ⟨rfl,rfl,rfl,rfl⟩
theorem Own.mk_ (hb:base≤g)(h:Bk w g t cs)(hn:n≤cap)(hm:cap≤maxLen)(hl:cs.length=cap*s)(hv:cs.take (n*s)=vs):Own w base t s (some ⟨g,0,none⟩) n cap vs:=
 bK ⟨g,cs,rfl,hb,h,hn,hm,hl,hv⟩
theorem Own.ext (h:Own w base t s A n cap vs)(e:Ext w w'):Own w' base t s A n cap vs:=by
 rcases h with h | ⟨g,cs,H,hb,o,r⟩
 ·exact bE h
 ·exact bK ⟨g,cs,H,hb,o.ext e,r⟩
theorem Own.upd (h:Own w base t s A n cap vs)(e:Upd k w w')(hne:∀a,A=some a→a.block≠k):Own w' base t s A n cap vs:=by
 rcases h with h | ⟨g,cs,o,hb,H,r⟩
 ·exact bE h
 ·exact bK ⟨g,cs,o,hb,H.upd e (hne _ o),r⟩
theorem Own.mono {base':Nat}(h:Own w base t s A n cap vs)(hb:base'≤base):Own w base' t s A n cap vs:=by
 rcases h with h | ⟨g,cs,o,hg,r⟩
 ·exact bE h
 ·exact bK ⟨g,cs,o,by omega,r⟩
theorem Own.rv (h:Own w base t s A n cap vs):Rv w s A n cap vs:=by
 rcases h with⟨rfl,rfl,rfl,rfl⟩ | ⟨g,cs,rfl,hb,o,hn,H,hl,rfl⟩
 ·exact Rv.nil w s
 ·have J:n*s≤cap*s:=dX s hn
  refine⟨by rw [dH];omega,hn,H,fun i hi=>⟨_,rfl,?_⟩,fun a I _=>by cases I;exact o.lt⟩
  rw [iZ,fE,o.cell (by omega)]
  congr 1
  simp only [bO,iN]
  rw [if_pos hi]
theorem Own.rd (h:Own w base t 1 A n cap (xs.map bD))(hw:Wf xs):Rd w A n cap xs:=⟨h.rv,hw⟩
theorem Own.block (h:Own w base t s A n cap vs):∀a,A=some a→base≤a.block∧a.block<w.heap.size:=by
 intro a o
 rcases h with h | ⟨g,cs,I,hb,H,_⟩
 ·rw [h.1] at o;cases o
 ·rw [I] at o;cases o;exact⟨hb,H.lt⟩
end
theorem eY:maxLen=9223372036854775807:=rfl
theorem eS (xs:List Nat)(i x:Nat):(xs.map bD).set i (AT (x:Int))=(xs.set i x).map bD:=by rw [List.map_set]
def zc (z:aF)(n:Nat):Array aF:=(dL n z).toArray
theorem vK (z:aF)(n:Nat):(zc z n).toList=dL n z:=rfl
theorem lD {t e:aO}{z:aF}{bytes:Nat}(ht:P.underlying t=some (.slice e))(hinfo:(P.info? e).map (fun i=>(i.zero,i.size,i.bytes))=some (some z,1,bytes))(hz:z.cells= #[z])(hby:bytes≤64)(l:Int)(h0:0≤l)(h1:l≤1099511627776)(w:a0):(Instr.makeSlice t (AI l) (AI l)).run P w= .ok (By (some ⟨w.heap.size,0,none⟩) l.toNat l.toNat) (w.alloc (.cells (zc z l.toNat) e)):=by
 obtain⟨i,hi,H,I,o⟩:=info_parts hinfo
 have h:=run_make (P:=P) w t e i z ht hi H .i64 .i64 l l h0 (Int.le_refl _) (by rw [o];have:(bytes:Int)*l≤64*1099511627776:=Int.mul_le_mul (by omega) h1 h0 (by omega);omega) (by omega)
 rw [h,I,gY,hz]
 congr 3
 apply Array.ext'
 rw [toList_madeCells_one,vK]
theorem Upd.setRow {a:a0}(h:Upd g a w)(cs:Array aF):Upd g a (w.setRow g cs):=
 h.trans ⟨⟨rfl,rfl,rfl,by simp [World.setRow],fun k _ o=>setRow_other w g k cs (fun e=>o (by rw [e]))⟩⟩
theorem cU {Q:cE→Act→a0→Prop}(d:Option Tmp){op:Op}{type:aO}{pos:String}(h:wpList P ops Q (⟨d,op,type,pos,after,guard⟩::rest) a w):wpList P ops Q (⟨d,op,type,pos,after,guard⟩::rest) a w:=h
theorem vL {Q:cE→Act→a0→Prop}(hgd:o.guard=none)(d s:cA)(dT sT:aO)(ho:o.op= .call {callee:= .builtin .copy,args:= #[d,s],argTypes:= #[dT,sT]}){dLen dCap sLen sCap:Nat}(hd:a.eval d= By dp dLen dCap)(hs:a.eval s= By sp sLen sCap){elem:aO}(hu:P.underlying dT=some (.slice elem))(hsz:(P.info? elem).map (·.size)=some 1){off:Nat}{t:aO}(hg:Bk w g t vs)(hsrc:Rv w 1 sp sLen sCap us)(hpos:0<dLen→dp=some ⟨g,off,none⟩)(hfit:off+dLen≤vs.length)(h1:∀v∈us,v.oneCell'=true)(h:∀w',Bk w' g t (splice vs off (us.take dLen))→Upd g w w'→wpList P ops Q rest (a.put o.dst (goInt (min sLen dLen:Nat))) w'):wpList P ops Q (o::rest) a w:=by
 have H:us.length=sLen:=by simpa using hsrc.len
 have hl:(us.take dLen).length=Nat.min sLen dLen:=by rw [dH,H,Nat.min_comm]
 by_cases U:Nat.min sLen dLen=0
 ·refine wpList_copy_nothing hgd d s dT sT ho elem hu hsz dp sp dLen dCap sLen sCap hd hs U ?_
  have e:us.take dLen= []:=uX (by omega)
  have:=h w (by rw [e];simpa [splice] using hg) (Upd.refl g w)
  rwa [show (min sLen dLen:Nat)=0 from U] at this
 ·have h0':¬min sLen dLen=0:=U
  have J:0<dLen:=by omega
  obtain⟨ad,rfl,_⟩:=hsrc.get 0 (by omega)
  obtain rfl:=hpos J
  refine wpList_copy_own hgd d s dT sT ho elem hu hsz g off dLen dCap ad sLen sCap hd hs vs.toArray t hg (us.take dLen) hl ?_ ?_ (fun v I=>h1 v (zS I)) ?_
  ·intro j v I
   have hj:j<(us.take dLen).length:=(fF.1 I).1
   have hj':j<min sLen dLen:=by rw [hl] at hj;exact hj
   obtain⟨a',ha',hc⟩:=hsrc.get j (by omega)
   cases ha'
   rw [hc,←I,iN,if_pos (by omega),bO,d8 (by omega)]
   rfl
  ·simp only [List.size_toArray]
   have:(us.take dLen).length≤dLen:=by rw [dH];omega
   omega
  ·have h':=h
   rw [show min sLen dLen=(us.take dLen).length from hl.symm] at h'
   refine h' _ ?_ ((Upd.refl g w).setRow _)
   show _=_
   simpa [splice] using setRow_heap w g _ _ t _ hg
structure UpdO (A:Option a6)(w w':a0):Prop where
 by_:w.grownBy w' (A.map (·.block))
theorem UpdO.ext {a:a0}(h:UpdO A w w')(e:Ext a w)(hA:∀p,A=some p→a.heap.size≤p.block):Ext a w':=
 e.grown h.by_ (fun k o=>by cases A with | none=>cases o | some p=>cases o;exact hA p G)
theorem UpdO.heap (h:UpdO A w w'){o:Obj}(hc:w.heap[k]?=some o)(hne:∀p,A=some p→p.block≠k):w'.heap[k]?=some o:=
 (h.by_.block k (jW.1 hc).1 (fun e=>by cases A with | none=>cases e | some p=>cases e;exact hne p G G)).trans hc
theorem UpdO.size (h:UpdO A w w'):w.heap.size≤w'.heap.size:=h.by_.size
theorem Bk.updO {t:aO}(h:Bk w g t vs)(e:UpdO A w w')(hne:∀p,A=some p→p.block≠g):Bk w' g t vs:=e.heap h hne
theorem Own.updO {t:aO}(h:Own w base t s B n cap vs)(e:UpdO A w w')(hne:∀p q,A=some p→B=some q→p.block≠q.block):Own w' base t s B n cap vs:=by
 rcases h with h | ⟨g,cs,o,hb,I,r⟩
 ·exact bE h
 ·exact bK ⟨g,cs,o,hb,I.updO e (fun p H=>hne p _ H o),r⟩
theorem Own.row {t:aO}(h:Own w base t s A n cap vs):w.ownsRow base t s (By A n cap) n vs:=by
 rcases h with⟨rfl,rfl,rfl,rfl⟩ | ⟨g,cs,rfl,hb,H,hn,o,hl,rfl⟩
 ·exact⟨by simp,bE ⟨rfl,rfl⟩⟩
 ·have I:n*s≤cap*s:=dX s hn
  exact⟨by rw [dH];omega,bK ⟨g,cap,cs.toArray,rfl,hb,H,hn,o,by simpa using hl,by simp⟩⟩
theorem Own.of_row {t:aO}(h:w.ownsRow base t s v n vs):∃A cap,v= By A n cap∧Own w base t s A n cap vs:=by
 obtain⟨hl,h⟩:=h
 rcases h with⟨rfl,rfl⟩ | ⟨g,cap,cur,rfl,hb,H,hn,o,J,I⟩
 ·exact⟨none,0,rfl,bE ⟨rfl,rfl,rfl,uX (by simpa using hl)⟩⟩
 ·exact⟨_,_,rfl,bK ⟨g,cur.toList,rfl,hb,by unfold Bk;simpa using H,hn,o,by simpa using J,I⟩⟩
theorem JH (w:a0)(base:Nat)(t ty e:aO)(i:TypeInfo)(size:Nat)(ht:P.underlying t=some (.slice e))(hi:P.info? e=some i)(v:aF)(n:Nat)(xs:List aF)(hown:w.ownsRow base e size v n xs)(c:Nat):(lY #[t,t] ty #[v,By none 0 c]).run P w= .ok v w:=by
 rcases hown.2 with⟨rfl,rfl⟩ | ⟨g,cap,cur,rfl,_,_,h,_⟩
 ·simp [lY,o3 ht,sizeOf,typeInfo,hi,Builtin.lenOf,G8]
 ·simp [lY,o3 ht,sizeOf,typeInfo,hi,Builtin.lenOf,G8,h,storeCells]
theorem Rv.one (w:a0)(t:aO)(v:aF):Rv (w.alloc (.cells #[v] t)) 1 (some ⟨w.heap.size,0,none⟩) 1 1 [v]:=by
 have h:=Bk.new w t [v]
 exact h.rv (o:=0) (n:=1) (cap:=1) (aI _) (by simp) (by rw [eY];omega)
theorem uH (xs:List Nat):∀v∈xs.map bD,v.oneCell'=true:=by
 intro v h
 obtain⟨x,_,rfl⟩:=List.mem_map.1 h
 rfl
theorem wA (xs ys:List Nat)(o:Nat):splice (xs.map bD) o (ys.map bD)=(splice xs o ys).map bD:=by
 simp [splice,o9,zT]
theorem IF {α:Type}(xs ys:List α)(h:ys.length=xs.length):splice xs 0 ys=ys:=by
 simp [splice,h]
theorem mB (n:Nat):dL n (kU .u64 0)=(dL n 0).map bD:=by rw [List.map_replicate];rfl
abbrev Fr:=List (Nat×aF)
def look:Fr→Nat→Option aF
 | [],_=>none
 | (j,v)::l,i=>bif lT j i then some v else look l i
structure Rp (n:Nat)(l:Fr)(a:Act):Prop where
 size:a.tmps.size=n
 nod:a.defers= []
 val:∀i v,look l i=some v→a.tmps.getD i undef=v
def bT (l:Fr):cA→Option aF
 | .tmp i=>look l i
 | .const v=>some v
 | .global g=>some (.pointer (some ⟨g,0,none⟩))
 | .func f=>some (.func (.func f) #[] #[])
def rho (l:Fr)(x:cA):aF:=(bT l x).getD undef
theorem Rp.ev {l:Fr}(h:Rp n l a){x:cA}(hx:bT l x=some v):a.eval x=v:=by
 cases x with
 | tmp i=>exact h.val i v hx
 | const u=>exact iL hx
 | global g=>exact iL hx
 | func f=>exact iL hx
theorem Rp.rho {l:Fr}(h:Rp n l a){x:cA}(hx:(bT l x).isSome=true):a.eval x=rho l x:=by
 obtain⟨v,o⟩:=Option.isSome_iff_exists.1 hx
 rw [h.ev o,Go.Proofs.YtnpbbknemflpnaaGreat.rho,o];rfl
theorem Rp.put {l:Fr}(h:Rp n l a)(hd:d<n)(v:aF):Rp n ((d,v)::l) (a.put (some d) v):=by
 refine⟨by simp [kK,h.size],by simp [kK,h.nod],fun i u hi=>?_⟩
 simp only [look] at hi
 have o:d<a.tmps.size:=by rw [h.size];exact hd
 by_cases e:d=i
 ·subst e
  rw [Nat.beq_refl] at hi
  cases hi
  simp [kK,o]
 ·have hb:lT d i=false:=by
   cases hh:lT d i with
   | false=>rfl
   | true=>exact absurd (o8 hh) e
  rw [hb] at hi
  have:=h.val i u hi
  simp only [kK,kZ] at this⊢
  rwa [zZ e]
def Keeps (l:Fr):Fr→Prop
 | []=>True
 | (i,v)::r=>look l i=some v∧Keeps l r
theorem Keeps.look {l:Fr}:∀{l':Fr},Keeps l l'→∀i v,look l' i=some v→look l i=some v
 | [],_,i,v,h=>by cases h
 | (j,u)::r,hk,i,v,h=>by
  simp only [Go.Proofs.YtnpbbknemflpnaaGreat.look] at h
  cases hb:lT j i with
  | true=>
   rw [hb] at h
   have e:=o8 hb
   subst e
   cases h
   exact hk.1
  | false=>
   rw [hb] at h
   exact hk.2.look i v h
theorem Rp.keep {l l':Fr}(h:Rp n l a)(hk:Keeps l l'):Rp n l' a:=⟨h.size,h.nod,fun i v hi=>h.val i v (hk.look i v hi)⟩
section
variable {P:bP}{Q:cE→Act→a0→Prop}{n:Nat}{l:Fr}{w:a0}
def cw (P:bP)(Q:cE→Act→a0→Prop)(n:Nat)(c:fX)(l:Fr)(w:a0):Prop:=∀a,Rp n l a→c.wp P Q a w
def wl (P:bP)(ops:Array aP)(Q:cE→Act→a0→Prop)(n:Nat)(rest:List aP)(l:Fr)(w:a0):Prop:=∀a,Rp n l a→wpList P ops Q rest a w
def eo (Q:cE→Act→a0→Prop)(e:cE)(n:Nat)(l:Fr)(w:a0):Prop:=∀a,Rp n l a→Q e a w
theorem bH {c:fX}(l':Fr)(hk:Keeps l l')(h:cw P Q n c l' w):cw P Q n c l w:=fun a o=>h a (o.keep hk)
theorem kA {e:cE}(l':Fr)(hk:Keeps l l')(h:eo Q e n l' w):eo Q e n l w:=fun a o=>h a (o.keep hk)
theorem aH {x y:fX}(h:cw P (Exit.then (fun a w=>y.wp P Q a w) Q) n x l w):cw P Q n (.seq x y) l w:=fun a o=>wp_seq (h a o)
theorem aL (h:wl P ol.toArray Q n ol l w):cw P Q n (.region id ol.toArray false) l w:=fun a o=>wp_region_lit (h a o)
theorem aS (h:eo Q .normal n l w):wl P ops Q n [] l w:=fun a o=>wpList_nil (h a o)
theorem aM {y:fX}(h:cw P Q n y l w):eo (Exit.then (fun a w=>y.wp P Q a w) Q) .normal n l w:=h
theorem bA (h:eo Q .normal n l w):cw P Q n .skip l w:=fun a o=>wp_skip (h a o)
theorem cM (h:eo Q (.exit i) n l w):cw P Q n (.exit i) l w:=fun a o=>wp_exit (h a o)
theorem bG (h:eo Q .ret n l w):cw P Q n .ret l w:=fun a o=>wp_ret (h a o)
theorem bB {c:fX}(h:cw P (lW i Q) n c l w):cw P Q n (.block i c) l w:=fun a o=>wp_block (h a o)
theorem bJ {c:cA}{x y:fX}(hc:bT l c=some (BY))(h:cw P Q n x l w):cw P Q n (.cond c x y) l w:=fun a o=>wp_cond_true (o.ev hc) (h a o)
theorem aY {c:cA}{x y:fX}(hc:bT l c=some (Hs))(h:cw P Q n y l w):cw P Q n (.cond c x y) l w:=fun a o=>wp_cond_false (o.ev hc) (h a o)
theorem cL (h:eo Q .normal n l w):eo (lW i Q) (.exit i) n l w:=fun a o=>by simp only [lW,if_true];exact h a o
theorem ED (hne:j≠i)(h:eo Q (.exit j) n l w):eo (lW i Q) (.exit j) n l w:=fun a o=>by simp only [lW,if_neg hne];exact h a o
theorem kQ (h:eo Q .ret n l w):eo (lW i Q) .ret n l w:=h
theorem cC (h:eo Q .normal n l w):eo (lW i Q) .normal n l w:=h
def uL {T:Type}(n:Nat)(F:T→Fr)(W:T→a0)(H:T→Prop)(m:T→Nat)(k:Nat)(Q:cE→Act→a0→Prop):cE→Act→a0→Prop
 | .normal,a,w=>∃t,H t∧m t<k∧W t=w∧Rp n (F t) a
 | e,a,w=>Q e a w
theorem cB {F:T→Fr}{W:T→a0}{H:T→Prop}{m:T→Nat}(t:T)(hH:H t)(hm:m t<k)(hW:W t=w)(hk:Keeps l (F t)):eo (uL n F W H m k Q) .normal n l w:=fun _ h=>⟨t,hH,hm,hW,h.keep hk⟩
theorem d6 (F:T→Fr)(W:T→a0)(H:T→Prop)(m:T→Nat){c:fX}(t0:T)(h0:H t0)(hW:W t0=w)(hk:Keeps l (F t0))(round:∀t,H t→cw P (uL n F W H m (m t) Q) n c (F t) (W t)):cw P Q n (.loop c) l w:=by
 classical
 intro a ha
 let S:Act→a0→Nat→Prop:=fun a w k=>∃t,H t∧m t=k∧W t=w∧Rp n (F t) a
 let I:Act→a0→Prop:=fun a w=>∃k,S a w k
 have hmin:∀a w,I a w→∃k,S a w k∧∀j,S a w j→k≤j:=by
  intro a w ⟨k,hk⟩
  induction k using pH with
  | ind k ih=>
   by_cases hs:∃j,S a w j∧j<k
   ·obtain⟨j,hj,hlt⟩:=hs
    exact ih j hlt hj
   ·exact⟨k,hk,fun j hj=>kW fun hlt=>hs ⟨j,hj,hlt⟩⟩
 let μ:Act→a0→Nat:=fun a w=>if h:I a w then jB (hmin a w h) else 0
 refine wp_loop I μ ⟨m t0,t0,h0,rfl,hW,ha.keep hk⟩ ?_
 intro a w hI
 have hμ:μ a w=jB (hmin a w hI):=dif_pos hI
 obtain⟨hS,hle⟩:=lX (hmin a w hI)
 rw [←hμ] at hS hle
 obtain⟨t,hH,hm,rfl,hr⟩:=hS
 refine Code.wp_mono ?_ (round t hH a hr)
 intro e a' w' h
 cases e with
 | normal=>
  obtain⟨t',hH',hm',hW',hr'⟩:=h
  have hI':I a' w':=⟨m t',t',hH',rfl,hW',hr'⟩
  refine⟨hI',?_⟩
  have hμ':μ a' w'=jB (hmin a' w' hI'):=dif_pos hI'
  have:=(lX (hmin a' w' hI')).2 (m t') ⟨t',hH',rfl,hW',hr'⟩
  omega
 | _=>exact h
theorem dZ {K:Act→a0→Prop}(h:eo Q .ret n l w):eo (Exit.then K Q) .ret n l w:=h
theorem cK {K:Act→a0→Prop}(h:eo Q (.exit i) n l w):eo (Exit.then K Q) (.exit i) n l w:=h
theorem qX {F:T→Fr}{W:T→a0}{H:T→Prop}{m:T→Nat}(h:eo Q .ret n l w):eo (uL n F W H m k Q) .ret n l w:=h
theorem cT {F:T→Fr}{W:T→a0}{H:T→Prop}{m:T→Nat}(h:eo Q (.exit i) n l w):eo (uL n F W H m k Q) (.exit i) n l w:=h
theorem d4 {c:fX}(l':Fr)(w':a0)(hw:w=w')(hk:Keeps l l')(h:cw P Q n c l' w'):cw P Q n c l w:=by subst hw;exact bH l' hk h
def rF:List aF→Nat→Fr
 | [],_=> []
 | v::r,i=>(i,v)::rF r (i+1)
theorem xH:∀(args:List aF) (k i:Nat) (v:aF),look (rF args k) i=some v→k≤i∧args[i-k]?=some v
 | [],k,i,v,h=>by cases h
 | u::r,k,i,v,h=>by
  simp only [rF,look] at h
  cases hb:lT k i with
  | true=>
   rw [hb] at h
   have e:=o8 hb
   subst e
   cases h
   simp
  | false=>
   rw [hb] at h
   obtain⟨_,o⟩:=xH r (k+1) i v h
   refine⟨by omega,?_⟩
   have:i-k=(i-(k+1))+1:=by omega
   rw [this];simpa using o
theorem bQ {c:fX}{R:dI→a0→Prop}(hf:P.funcs[f]?=some fn)(hb:fn.body=some c)(hn:fn.ntmps=n)(hle:args.length≤n)(h:cw P (bodyPost P fn R) n c (rF args 0) w):aR P f args.toArray w R:=by
 refine calls_of_wp hf hb (h _ ⟨?_,rfl,fun i v hi=>?_⟩)
 ·simp [hn];omega
 ·obtain⟨_,H⟩:=xH args 0 i v hi
  rw [o6] at H
  have o:i<args.length:=(fF.1 H).1
  simp only [kZ]
  rw [Array.getElem?_append_left (by simpa using o)]
  simp [H]
def oK (P:bP)(w:a0)(l:Fr):List pF→List aF→Prop
 | [],[]=>True
 | .tmp t::r,v::vs=>look l t=some v∧oK P w l r vs
 | .cell s t::r,v::vs=>(∃a,look l s=some (.pointer (some a))∧(loadVar t a).run P w= .ok v w)∧oK P w l r vs
 | _,_=>False
def nG (tmps:Array aF):pF→Sem aF
 | .tmp t=>pure (tmps.getD t undef)
 | .cell s t=>do loadVar t (←asAddr (tmps.getD s undef))
theorem wG {a:Act}(ha:Rp n l a):∀(rl:List pF) (vs:List aF),oK P w l rl vs→(rl.mapM (nG a.tmps)).run P w= .ok vs w
 | [],[],_=>rfl
 | [],_::_,h=>by cases h
 | .tmp _::_,[],h=>by cases h
 | .cell _ _::_,[],h=>by cases h
 | .tmp t::rl,v::vs,h=>by
  obtain⟨h1,h2⟩:=h
  have o:(nG a.tmps (.tmp t)).run P w= .ok v w:=by
   show (Sem.pure (a.tmps.getD t undef)).run P w=_
   rw [ha.val t v h1];rfl
  rw [List.mapM_cons]
  simp only [c8,o,eD,wG ha rl vs h2,fO]
 | .cell s t::rl,v::vs,h=>by
  obtain⟨⟨p,h1,H⟩,h2⟩:=h
  have o:(nG a.tmps (.cell s t)).run P w= .ok v w:=by
   have e:(do loadVar t (←asAddr (a.tmps.getD s undef)):Sem aF).run P w= .ok v w:=by
    rw [ha.val s _ h1];simpa [asAddr] using H
   exact e
  rw [List.mapM_cons]
  simp only [c8,o,eD,wG ha rl vs h2,fO]
def wL:List aF→aF
 | [v]=>v
 | vs=> .tuple vs.toArray
theorem BX (hr:fn.results=rl.toArray)(ha:Rp n l a)(h:oK P w l rl vs):(results fn a.tmps).run P w= .ok (wL vs) w:=by
 have H:=wG ha rl vs h
 have e:results fn a.tmps=(do let vs←fn.results.mapM (nG a.tmps);pure (if h:vs.size=1 then vs[0] else .tuple vs)):=rfl
 have I:(fn.results.mapM (nG a.tmps)).run P w= .ok vs.toArray w:=by
  rw [hr,List.mapM_toArray]
  have o:(List.toArray<$>rl.mapM (nG a.tmps):Sem (Array aF))=(rl.mapM (nG a.tmps)>>=fun x=>pure x.toArray):=by rw [bind_pure_comp]
  rw [o]
  simp only [c8,H,eD,fO]
 rw [e]
 simp only [c8,I,eD,fO]
 match vs with
 | []=>rfl
 | [v]=>rfl
 | u::v::r=>rfl
theorem bF {R:dI→a0→Prop}(vs:List aF)(hr:fn.results=rl.toArray)(h:oK P w l rl vs)(hR:R (.returned (wL vs)) w):eo (bodyPost P fn R) .ret n l w:=
 fun _ o=>eV (BX hr o h) o.nod hR
theorem iW {R:dI→a0→Prop}(vs:List aF)(hr:fn.results=rl.toArray)(h:oK P w l rl vs)(hR:R (.returned (wL vs)) w):eo (bodyPost P fn R) .normal n l w:=
 fun _ o=>bodyPost_end (BX hr o h) o.nod hR
section ops
variable {ops:Array aP}{rest:List aP}{d:Nat}{op:Op}{ty:aO}{pos:String}{af:Array Edge}
def cZ (ops:Array aP)(l:Fr):Option (Nat×Bool)→Option Bool
 | none=>some true
 | some (g,b)=>
  match (ops[g]?).bind (·.dst) with
  | some c=>
   match look l c with
   | some (.bool x)=>some (x==b)
   | some (.tuple _)=>some false
   | _=>none
  | none=>none
theorem sN {r:Bool}(h:cZ ops l gd=some r)(ha:Rp n l a):pG ⟨dst,op,ty,pos,af,gd⟩ (yielded ops a.tmps)=r:=by
 cases gd with
 | none=>exact iL h
 | some p=>
  obtain⟨g,b⟩:=p
  simp only [cZ] at h
  simp only [pG]
  cases hc:(ops[g]?).bind (·.dst) with
  | none=>rw [hc] at h;cases h
  | some c=>
   rw [hc] at h
   simp only at h
   have H:yielded ops a.tmps g=match a.tmps[c]? with | some (.bool b)=>some b | _=>none:=by
    unfold yielded;rw [hc];rfl
   cases hl:look l c with
   | none=>rw [hl] at h;cases h
   | some u=>
    rw [hl] at h
    have o:=ha.val c u hl
    rw [kZ] at o
    cases u with
    | bool x=>
     simp only [fB] at h
     cases hx:a.tmps[c]? with
     | none=>rw [hx] at o;cases o
     | some v=>
      rw [hx] at o
      simp only [uP] at o
      subst o
      rw [H,hx,←h]
      cases x <;> cases b <;> rfl
    | tuple vs=>
     simp only [fB] at h
     cases hx:a.tmps[c]? with
     | none=>rw [H,hx,←h];rfl
     | some v=>
      rw [hx] at o
      simp only [uP] at o
      subst o
      rw [H,hx,←h];rfl
    | _=>cases h
variable {gd:Option (Nat×Bool)}
theorem sK (hw:cZ ops l gd=some true)(ha:Rp n l a)(h:∀K:Act→a0→Prop,(∀a w,wpList P ops Q rest a w→K a w)→jQ P ⟨dst,op,ty,pos,af,gd⟩ a w K Q):wpList P ops Q (⟨dst,op,ty,pos,af,gd⟩::rest) a w:=
 wpList_step fun K o=>by rw [sN hw ha];exact h K o
theorem GP (hw:cZ ops l gd=some false)(hn:d<n)(h:wl P ops Q n rest ((d,undef)::l) w):wl P ops Q n (⟨some d,op,ty,pos,af,gd⟩::rest) l w:=fun a o=>
 wpList_step fun K H=>by
  rw [sN hw o]
  exact H _ _ (h _ (o.put hn undef))
theorem fP (hw:cZ ops l gd=some true)(hn:d<n)(hr:∀a,Rp n l a→(execOp a.eval ⟨some d,op,ty,pos,af,gd⟩).run P w= .ok (.value v) w')(h:wl P ops Q n rest ((d,v)::l) w'):wl P ops Q n (⟨some d,op,ty,pos,af,gd⟩::rest) l w:=fun a o=>by
 refine sK hw o fun K H=>?_
 unfold jQ
 rw [hr a o]
 exact H _ _ (h _ (o.put hn v))
theorem GN (hw:cZ ops l gd=some true)(hr:∀a,Rp n l a→(execOp a.eval ⟨none,op,ty,pos,af,gd⟩).run P w= .ok .skip w')(h:wl P ops Q n rest l w'):wl P ops Q n (⟨none,op,ty,pos,af,gd⟩::rest) l w:=fun a o=>by
 refine sK hw o fun K H=>?_
 unfold jQ
 rw [hr a o]
 exact H _ _ (h _ o)
def tB:Op→Bool
 | .select .. =>false
 | _=>true
def jL (l:Fr)(op:Op):Bool:=tB op&&op.operands.toList.all fun x=>(bT l x).isSome
theorem oY {g:Option (Nat×Bool)}(hk:jL l op=true)(ha:Rp n l a):execOp a.eval ⟨dst,op,ty,pos,af,g⟩=execOp (rho l) ⟨dst,op,ty,pos,af,g⟩:=by
 simp only [jL,dU,eZ] at hk
 refine execOp_congr _ (fun cs b e=>?_) (fun x h=>ha.rho (hk.2 x (by simpa using h)))
 simp only at e
 rw [e] at hk
 exact absurd hk.1 (by simp [tB])
theorem AO (hw:cZ ops l gd=some true)(hk:jL l op=true)(hn:d<n)(hr:(execOp (rho l) ⟨some d,op,ty,pos,af,gd⟩).run P w= .ok (.value v) w)(h:wl P ops Q n rest ((d,v)::l) w):wl P ops Q n (⟨some d,op,ty,pos,af,gd⟩::rest) l w:=
 fP hw hn (fun a o=>by rw [oY hk o];exact hr) h
theorem GQ {x:cA}(hw:cZ ops l gd=some true)(hx:bT l x=some v)(hn:d<n)(h:wl P ops Q n rest ((d,v)::l) w):wl P ops Q n (⟨some d,.move x,ty,pos,af,gd⟩::rest) l w:=
 fP hw hn (fun a o=>by simp only [execOp,o.ev hx];rfl) h
theorem GT {x:cA}(hw:cZ ops l gd=some true)(hx:bT l x=some v)(hn:d<n)(h:wl P ops Q n rest ((d,v)::l) w):wl P ops Q n (⟨some d,.assign x,ty,pos,af,gd⟩::rest) l w:=
 fP hw hn (fun a o=>by simp only [execOp,o.ev hx];rfl) h
theorem aK {x:cA}{t:aO}(hw:cZ ops l gd=some true)(hx:bT l x=some (.pointer (some p)))(hl:(loadVar t p).run P w= .ok v w)(h:wl P ops Q n rest ((d,v)::l) w)(hn:d<n:=by decide):wl P ops Q n (⟨some d,.load t x,ty,pos,af,gd⟩::rest) l w:=
 fP hw hn (fun a o=>by
  have e:(vD t (a.eval x)).run P w= .ok v w:=by rw [o.ev hx];exact hl
  show ((vD t (a.eval x)>>=fun r=>pure (iA r):Sem Next)).run P w=_
  rw [c8,e];rfl) h
theorem AN {x y:cA}{t:aO}(hw:cZ ops l gd=some true)(hx:bT l x=some (.pointer (some p)))(hy:bT l y=some v)(hs:(storeVar t p v).run P w= .ok () w')(h:wl P ops Q n rest l w'):wl P ops Q n (⟨none,.store t x y,ty,pos,af,gd⟩::rest) l w:=
 GN hw (fun a o=>by
  have e:(vC t (a.eval x) (a.eval y)).run P w= .ok () w':=by rw [o.ev hx,o.ev hy];exact hs
  show ((vC t (a.eval x) (a.eval y)>>=fun _=>pure Next.skip:Sem Next)).run P w=_
  rw [c8,e];rfl) h
def bZ:kJ→Int→Int→Option Bool
 | .eql,a,b=>some (a==b)
 | .neq,a,b=>some (a != b)
 | .lss,a,b=>some (decide (a<b))
 | .leq,a,b=>some (decide (a≤b))
 | .gtr,a,b=>some (decide (a>b))
 | .geq,a,b=>some (decide (a≥b))
 | _,_,_=>none
theorem C1 {o:kJ}{t:aO}{k:j9}{a b:Int}{c:Bool}(hc:bZ o a b=some c){x y:cA}:((do eqGuard o t x y (.int k a) (.int k b);binOp o t (.int k a) (.int k b)):Sem aF).run P w= .ok (.bool c) w:=by
 cases o <;> simp only [bZ,fB,reduceCtorEq] at hc <;> subst hc <;> simp [eqGuard,binOp,Op.intCmp]
theorem aN (hw:cZ ops l gd=some true){o:kJ}{t:aO}{x y:cA}{k:j9}{a b:Int}(hx:bT l x=some (.int k a))(hy:bT l y=some (.int k b))(c:Bool)(hc:bZ o a b=some c)(h:wl P ops Q n rest ((d,.bool c)::l) w)(hn:d<n:=by decide):wl P ops Q n (⟨some d,.binOp o t x y t',ty,pos,af,gd⟩::rest) l w:=
 fP hw hn (fun a' H=>by
  have e:((do eqGuard o t x y (a'.eval x) (a'.eval y);binOp o t (a'.eval x) (a'.eval y)):Sem aF).run P w= .ok (.bool c) w:=by
   rw [H.ev hx,H.ev hy];exact C1 hc
  show ((((do eqGuard o t x y (a'.eval x) (a'.eval y);binOp o t (a'.eval x) (a'.eval y)):Sem aF)>>=fun r=>pure (iA r)):Sem Next).run P w=_
  rw [c8,e];rfl) h
def iX:kJ→j9→Int→Int→Option Int
 | .add,k,a,b=>some (k.wrap (a+b))
 | .sub,k,a,b=>some (k.wrap (a-b))
 | .mul,k,a,b=>some (k.wrap (a*b))
 | .quo,k,a,b=>if b=0 then none else some (k.wrap (a.tdiv b))
 | .rem,_,a,b=>if b=0 then none else some (a.tmod b)
 | _,_,_,_=>none
theorem JG {o:kJ}{t:aO}{k:j9}{a b c:Int}(hc:iX o k a b=some c){x y:cA}:((do eqGuard o t x y (.int k a) (.int k b);binOp o t (.int k a) (.int k b)):Sem aF).run P w= .ok (.int k c) w:=by
 cases o <;> simp only [iX,fB,reduceCtorEq] at hc
 case add=>subst hc;simp [eqGuard,binOp,zP]
 case sub=>subst hc;simp [eqGuard,binOp,zP]
 case mul=>subst hc;simp [eqGuard,binOp,zP]
 case quo=>
  by_cases hb:b=0
  ·rw [if_pos hb] at hc;cases hc
  ·rw [if_neg hb] at hc;cases hc;simp [eqGuard,binOp,rX,hb]
 case rem=>
  by_cases hb:b=0
  ·rw [if_pos hb] at hc;cases hc
  ·rw [if_neg hb] at hc;cases hc;simp [eqGuard,binOp,rX,hb]
theorem bC (hw:cZ ops l gd=some true){o:kJ}{t:aO}{x y:cA}{k:j9}{a b:Int}(hx:bT l x=some (.int k a))(hy:bT l y=some (.int k b))(c:Int)(hc:iX o k a b=some c)(h:wl P ops Q n rest ((d,.int k c)::l) w)(hn:d<n:=by decide):wl P ops Q n (⟨some d,.binOp o t x y t',ty,pos,af,gd⟩::rest) l w:=
 fP hw hn (fun a' H=>by
  have e:((do eqGuard o t x y (a'.eval x) (a'.eval y);binOp o t (a'.eval x) (a'.eval y)):Sem aF).run P w= .ok (.int k c) w:=by
   rw [H.ev hx,H.ev hy];exact JG hc
  show ((((do eqGuard o t x y (a'.eval x) (a'.eval y);binOp o t (a'.eval x) (a'.eval y)):Sem aF)>>=fun r=>pure (iA r)):Sem Next).run P w=_
  rw [c8,e];rfl) h
structure NewBk (w w':a0)(g:Nat)(t:aO)(vs:List aF):Prop where
 at_:w.heap.size=g
 size:w'.heap.size=g+1
 bk:Bk w' g t vs
 ext:Ext w w'
theorem NewBk.mk' (w:a0)(t:aO)(vs:List aF):NewBk w (w.alloc (.cells vs.toArray t)) w.heap.size t vs:=⟨rfl,by simp,Bk.new w t vs,(Ext.refl w).alloc _⟩
theorem wH {t:aO}(hv:v.cells=vs.toArray):(newVar t v).run P w= .ok ⟨w.heap.size,0,none⟩ (w.alloc (.cells vs.toArray t)):=by
 unfold newVar newRow newObj
 rw [hv]
 rfl
theorem m3 {x:cA}{t:aO}(hw:cZ ops l gd=some true)(hx:bT l x=some v)(hv:v.cells=vs.toArray)(h:∀g w',NewBk w w' g t vs→wl P ops Q n rest ((d,a9 g 0)::l) w')(hn:d<n:=by decide):wl P ops Q n (⟨some d,.box t x,ty,pos,af,gd⟩::rest) l w:=
 fP hw hn (fun a o=>by
  have e:(Instr.box t (a.eval x)).run P w= .ok (a9 w.heap.size 0) (w.alloc (.cells vs.toArray t)):=by
   rw [o.ev hx]
   show ((newVar t v>>=fun r=>pure (rW (some r)):Sem aF)).run P w=_
   rw [c8,wH hv];rfl
  show ((Instr.box t (a.eval x)>>=fun r=>pure (iA r):Sem Next)).run P w=_
  rw [c8,e];rfl) (h _ _ (NewBk.mk' w t vs))
theorem dM {t:aO}{z:aF}(hw:cZ ops l gd=some true)(hz:∀w,(zeroValue t).run P w= .ok z w)(hv:z.cells=vs.toArray)(h:∀g w',NewBk w w' g t vs→wl P ops Q n rest ((d,a9 g 0)::l) w')(hn:d<n:=by decide):wl P ops Q n (⟨some d,.alloc t,ty,pos,af,gd⟩::rest) l w:=
 fP hw hn (fun a _=>by
  have e:(vE t true (.tuple #[])).run P w= .ok (a9 w.heap.size 0) (w.alloc (.cells vs.toArray t)):=by
   show ((zeroValue t>>=fun z=>(newVar t z>>=fun r=>pure (rW (some r))):Sem aF)).run P w=_
   rw [c8,hz w]
   show ((newVar t z>>=fun r=>pure (rW (some r)):Sem aF)).run P w=_
   rw [c8,wH hv];rfl
  show ((vE t true (.tuple #[])>>=fun r=>pure (iA r):Sem Next)).run P w=_
  rw [c8,e];rfl) (h _ _ (NewBk.mk' w t vs))
def uJ (p:aF→Prop):dI→Prop
 | .returned v=>p v
 | _=>False
theorem bL {p:aF→Prop}(h:p v):uJ p (.returned v):=h
theorem bR {xs:Array cA}{R:dI→a0→Prop}(hw:cZ ops l gd=some true)(hk:jL l (.call {callee:= .value (.func f),args:=xs,argTypes:=ts})=true)(hr:(execOp (rho l) ⟨some d,.call {callee:= .value (.func f),args:=xs,argTypes:=ts},ty,pos,af,gd⟩).run P w= .ok (.enter f vs.toArray) w)(hn:d<n)(hc:aR P f vs.toArray w R)(h:∀e w',R e w'→uJ (fun v=>wl P ops Q n rest ((d,v)::l) w') e):wl P ops Q n (⟨some d,.call {callee:= .value (.func f),args:=xs,argTypes:=ts},ty,pos,af,gd⟩::rest) l w:=fun a o=>by
 refine sK hw o fun K I=>?_
 unfold jQ
 rw [oY hk o,hr]
 refine hc.mono fun e w' H=>?_
 have:=h e w' H
 cases e with
 | returned v=>exact I _ _ (this _ (o.put hn v))
 | panicked c=>exact this.elim
 | outgrown=>exact this.elim
end ops
end
def NP (Q:cE→Act→a0→Prop):cE→Act→a0→Prop
 | .panic _,_,_=>False
 | e,a,w=>Q e a w
theorem NP.imp {Q:cE→Act→a0→Prop}:∀e a w,NP Q e a w→Q e a w:=fun e a w h=>by
 cases e <;> first | exact h | exact h.elim
theorem dA {Q:cE→Act→a0→Prop}{l:Fr}(h:eo Q .normal n l w):eo (NP Q) .normal n l w:=h
def eC (Rs:List (aF→a0→Prop))(i:Nat):aF→a0→Prop:=(Rs[i]?).getD fun _ _=>True
def eO (a:Act):Option Tmp→aF
 | some d=>a.tmps.getD d undef
 | none=>undef
def iQ (d:Option Tmp)(v:aF)(l:Fr):Fr:=
 match d with
 | some d=>(d,v)::l
 | none=>l
def bN (ol:List aP)(j:Nat):Option Tmp:=(ol[j]?).bind (·.dst)
def tS (o:aP)(j:Nat):Bool:=o.after.toList.any fun e=>j5 .any e&&e.on==j
theorem M3 (h:tS o j=true):∃e∈o.after,j5 .any e=true∧e.on=j:=by
 simp only [tS,zX,dU,beq_iff_eq] at h
 obtain⟨e,J,H,I⟩:=h
 exact⟨e,by simpa using J,H,I⟩
def Deps (ol:List aP)(Rs:List (aF→a0→Prop))(w0 w1:a0)(k:Fr→Prop):List Nat→Fr→Prop
 | [],acc=>k acc
 | j::ds,acc=>∀v wj,eC Rs j v wj→Ext w0 wj→Ext wj w1→Deps ol Rs w0 w1 k ds (iQ (bN ol j) v acc)
theorem a8 {Rs:List (aF→a0→Prop)}{k:Fr→Prop}{acc:Fr}(h:k acc):Deps ol Rs w0 w1 k [] acc:=h
theorem aT {Rs:List (aF→a0→Prop)}{k:Fr→Prop}{acc:Fr}{R:aF→a0→Prop}(hR:Rs[j]?=some R)(hd:bN ol j=some d)(h:∀v wj,R v wj→Ext w0 wj→Ext wj w1→Deps ol Rs w0 w1 k ds ((d,v)::acc)):Deps ol Rs w0 w1 k (j::ds) acc:=by
 intro v wj hr e e'
 have o:eC Rs j=R:=by unfold eC;rw [hR];rfl
 have H:iQ (bN ol j) v acc=(d,v)::acc:=by rw [hd];rfl
 rw [o] at hr
 rw [H]
 exact h v wj hr e e'
def kF (w1:a0)(d:Option Tmp)(R:aF→a0→Prop):cE→Act→a0→Prop
 | .normal,a,w=>Ext w1 w∧R (eO a d) w∧a.defers= []
 | _,_,_=>False
theorem aC {l:Fr}{R:aF→a0→Prop}(hv:look l d=some v)(hx:Ext w1 w)(hR:R v w):wl P ops (kF w1 (some d) R) n [] l w:=
 aS fun a h=>⟨hx,by show R (a.tmps.getD d undef) w;rw [h.val d v hv];exact hR,h.nod⟩
def eT (v:aF)(g:Nat):Prop:=v= a9 g 0∨∃s p n c,v= .agg #[.bool s,By (some p) n c]∧p.block=g
def mQ (w:a0)(v:aF):Prop:=∀g,eT v g→w.heap.size≤g
def uK (w:a0)(v:aF):Prop:=∀g,eT v g→g<w.heap.size
def NewVr (w:a0)(v:aF):Prop:=∃g,v= a9 g 0∧w.heap.size≤g
theorem DF (h:eT (a9 g 0) k):k=g:=by
 rcases h with h | ⟨_,_,_,_,h,_⟩
 ·cases h;rfl
 ·cases h
def rP (Rs:List (aF→a0→Prop)):List Nat→Prop
 | []=>True
 | i::r=>(∀v w,eC Rs i v w→uK w v)∧rP Rs r
theorem CL {Rs:List (aF→a0→Prop)}:∀{al:List Nat},rP Rs al→∀i∈al,∀v w,eC Rs i v w→uK w v
 | [],_,i,h=>by cases h
 | j::r,h,i,hi=>by
  rcases sC.1 hi with e | e
  ·subst e;exact h.1
  ·exact CL h.2 i e
def rS (ol:List aP)(al:List Nat)(acc:Fr):Prop:=∀i∈al,∀j∈al,i≠j→∀di dj,bN ol i=some di→bN ol j=some dj→∀u v,look acc di=some u→look acc dj=some v→∀g,eT u g→eT v g→False
def qZ (k:Nat):aF→aF
 | .tuple vs=>(vs[k]?).getD undef
 | _=>undef
def zK (ol:List aP)(m:Nat)(fl:List Nat)(dss:List (List Nat))(lk:List (Nat×Nat×Nat)):Prop:=
 ∀e∈lk,e.1<m∧e.1∈fl∧e.2.1<m∧e.2.1∈(dss[e.1]?).getD []∧∃o t,ol[e.1]?=some o∧o.op= .extract (.tmp t) e.2.2∧bN ol e.2.1=some t
def zL (ol:List aP)(lk:List (Nat×Nat×Nat))(acc:Fr):Prop:=∀e∈lk,∀di dj,bN ol e.1=some di→bN ol e.2.1=some dj→∀u v,look acc di=some u→look acc dj=some v→u=qZ e.2.2 v
theorem OX {t:Tmp}(ho:o.op= .extract (.tmp t) k)(h:(execOp a.eval o).run P w= .ok (.value v) w):v=qZ k (a.tmps.getD t undef):=by
 have e:a.eval (.tmp t)=a.tmps.getD t undef:=rfl
 unfold execOp at h
 rw [ho] at h
 simp only [e] at h
 generalize a.tmps.getD t undef=x at h
 cases x with
 | tuple vs=>
  simp only [Instr.extract] at h
  cases hv:vs[k]? with
  | none=>rw [hv] at h;cases h
  | some u=>
   rw [hv] at h
   simp only [qZ,hv,uP]
   cases h
   rfl
 | _=>cases h
section
variable (P:bP) (n:Nat) (ol:List aP) (m:Nat) (fl al:List Nat) (Rs:List (aF→a0→Prop)) (l:Fr) (w0:a0)
def pD (i:Nat)(o:aP)(ds:List Nat):Prop:=
 ∀w1,Ext w0 w1→Deps ol Rs w0 w1 (fun acc=>wl P ol.toArray (kF w1 o.dst (fun v w=>eC Rs i v w∧(al.contains i=true→mQ w1 v))) n [o] acc w1) ds l
def uO (i:Nat)(o:aP)(ds:List Nat):Prop:=
 ∀w1,Ext w0 w1→Deps ol Rs w0 w1 (fun acc=>∃v,jL acc o.op=true∧cZ ol.toArray acc o.guard=some true∧(∀w,(execOp (rho acc) o).run P w= .ok (.value v) w)∧eC Rs i v w1) ds l
def kG:List (List Nat)→Nat→Prop
 | [],_=>True
 | ds::dss,i=>(match ol[i]? with | some o=>if fl.contains i then uO P ol Rs l w0 i o ds else pD P n ol al Rs l w0 i o ds | none=>True)∧kG dss (i+1)
end
def cO (rl:List (List Nat))(i:Nat):List Nat:=(rl[i]?).getD []
def nT (n : Nat)(ol : List aP)(m : Nat)(fl : List Nat)(l : Fr)(dss rl : List (List Nat)): Bool :=
  decide (m ≤ ol.length) && dss.length == m && fl.all (fun i => decide (i < m)) &&
  (ol.zipIdx.all fun (o, i) => tB o.op && (o.after.toList.all fun e => !Region.binds .any e || decide (e.on < i)) && ((cO rl i).all fun j => o.after.toList.any fun e => j5 .any e && (e.on == j || (cO rl e.on).contains j)) &&
    (if i < m then
      (match o.dst with
       | some d => decide (d < n) && l.all (fun p => p.1 != d) && ol.zipIdx.all (fun (o', j) => j == i || decide (m ≤ j) || o'.dst != some d)
       | none => false) &&
      ((dss[i]?).getD []).all (fun j => (cO rl i).contains j) &&
      (!fl.contains i || ol.zipIdx.all (fun (o', j) => j == i || (cO rl i).contains j || tS o' i || o.apart ol.toArray o'))
     else (d7 i).all (fun j => fl.contains j || (cO rl i).contains j)))
structure DrawOk (n:Nat)(ol:List aP)(m:Nat)(fl:List Nat)(l:Fr)(dss rl:List (List Nat)):Prop where
 mle:m≤ol.length
 dlen:dss.length=m
 flt:∀i∈fl,i<m
 sel:∀(i:Nat) (o:aP),ol[i]?=some o→tB o.op=true
 back:∀(i:Nat) (o:aP),ol[i]?=some o→∀e∈o.after,j5 .any e=true→e.on<i
 dst:∀(i:Nat) (o:aP),ol[i]?=some o→i<m→∃d,o.dst=some d∧d<n∧(∀p∈l,p.1≠d)∧∀(j:Nat) (o':aP),ol[j]?=some o'→j≠i→j<m→o'.dst≠some d
 reach:∀(i:Nat) (o:aP),ol[i]?=some o→∀j∈cO rl i,∃e∈o.after,j5 .any e=true∧(e.on=j∨j∈cO rl e.on)
 deps:∀(i:Nat) (o:aP),ol[i]?=some o→i<m→∀j∈(dss[i]?).getD [],j∈cO rl i
 free:∀(i:Nat) (o:aP),ol[i]?=some o→i∈fl→∀(j:Nat) (o':aP),ol[j]?=some o'→j≠i→j ∉ cO rl i→tS o' i=true∨o.apart ol.toArray o'=true
 tail:∀(i:Nat) (o:aP),ol[i]?=some o→m≤i→∀j,j<i→j∈fl∨j∈cO rl i
theorem rH {α:Type}{l:List α}{p:α×Nat→Bool}(h:l.zipIdx.all p=true)(i:Nat)(x:α)(hx:l[i]?=some x):p (x,i)=true:=by
 rw [eZ] at h
 exact h (x,i) (by rw [List.mem_zipIdx_iff_getElem?];simpa using hx)
theorem EJ {l:Fr}{rl:List (List Nat)}(h:nT n ol m fl l dss rl=true):DrawOk n ol m fl l dss rl:=by
 simp only [nT,dU,decide_eq_true_eq,beq_iff_eq] at h
 obtain⟨⟨⟨h1,h2⟩,h3⟩,h4⟩:=h
 have key:=fun (i:Nat) (o:aP) (I:ol[i]?=some o)=>rH h4 i o I
 simp only [dU] at key
 refine⟨h1,h2,fun i hi=>by rw [eZ] at h3;simpa using h3 i hi,fun i o I=>(key i o I).1.1.1,fun i o I e he hb=>?_,fun i o I hi=>?_,fun i o I j hj=>?_,fun i o I hi j hj=>?_,fun i o I hi j o' ho' J ab=>?_,fun i o I hi j hj=>?_⟩
 ·have:=(key i o I).1.1.2
  rw [eZ] at this
  have:=this e (by simpa using he)
  simpa [hb] using this
 ·have:=(key i o I).2
  rw [if_pos hi] at this
  simp only [dU] at this
  obtain⟨⟨H,_⟩,_⟩:=this
  cases hd:o.dst with
  | none=>rw [hd] at H;cases H
  | some d=>
   rw [hd] at H
   simp only [dU,decide_eq_true_eq] at H
   obtain⟨⟨U,h7⟩,h8⟩:=H
   refine⟨d,rfl,U,fun p hp=>?_,fun j o' ho' J _ e=>?_⟩
   ·rw [eZ] at h7
    simpa using h7 p hp
   ·have:=rH h8 j o' ho'
    simp only [mY,beq_iff_eq,decide_eq_true_eq,bne_iff_ne] at this
    rcases this with (h | h) | h
    ·exact J h
    ·omega
    ·exact h e
 ·have H:=(key i o I).1.2
  rw [eZ] at H
  have:=H j hj
  rw [zX] at this
  obtain⟨e,he,U⟩:=this
  simp only [dU,mY,beq_iff_eq,j8] at U
  exact⟨e,by simpa using he,U.1,U.2⟩
 ·have:=(key i o I).2
  rw [if_pos hi] at this
  simp only [dU] at this
  have H:=this.1.2
  rw [eZ] at H
  simpa using H j hj
 ·have ac:i<m:=by rw [eZ] at h3;simpa using h3 i hi
  have:=(key i o I).2
  rw [if_pos ac] at this
  simp only [dU,mY,vG] at this
  rcases this.2 with H | H
  ·simp [hi] at H
  ·have:=rH H j o' ho'
   simp only [mY,beq_iff_eq,j8] at this
   rcases this with ((h | h) | h) | h
   ·exact absurd h J
   ·exact absurd h ab
   ·exact bE h
   ·exact bK h
 ·have:=(key i o I).2
  rw [if_neg (by omega),eZ] at this
  have:=this j (by simpa using hj)
  simpa using this
section
variable {P:bP}{Q:cE→Act→a0→Prop}{n:Nat}{ol:List aP}{m:Nat}{fl al:List Nat}{Rs:List (aF→a0→Prop)}{l:Fr}{w0:a0}{dss rl:List (List Nat)}
def rR (ol:List aP)(Rs:List (aF→a0→Prop))(w0:a0)(i:Nat)(a:Act)(w:a0):Prop:=∃w1,Ext w0 w1∧Ext w1 w∧eC Rs i (eO a (bN ol i)) w1
theorem Deps.weak {w1:a0}{k k':Fr→Prop}(hi:∀acc,k acc→k' acc):∀(ds:List Nat) (acc:Fr),Deps ol Rs w0 w1 k ds acc→Deps ol Rs w0 w1 k' ds acc
 | [],acc,h=>hi acc h
 | _::ds,_,h=>fun v wj h1 h2 h3=>Deps.weak hi ds _ (h v wj h1 h2 h3)
theorem Rp.cons {acc:Fr}(h:Rp n acc a)(hv:a.tmps.getD d undef=v):Rp n ((d,v)::acc) a:=
 ⟨h.size,h.nod,fun i u hi=>by
  simp only [look] at hi
  cases hb:lT d i with
  | true=>
   rw [hb] at hi
   have e:=o8 hb
   subst e
   cases hi
   exact hv
  | false=>rw [hb] at hi;exact h.val i u hi⟩
theorem Deps.apply {w1:a0}{k:Fr→Prop}{a:Act}:∀(ds:List Nat) (acc:Fr),(∀j∈ds,rR ol Rs w0 j a w1)→Deps ol Rs w0 w1 k ds acc→Rp n acc a→∃acc',Rp n acc' a∧k acc'
 | [],acc,_,h,hr=>⟨acc,hr,h⟩
 | j::ds,acc,hf,h,hr=>by
  obtain⟨wj,e1,e2,hR⟩:=hf j (by simp)
  refine Deps.apply ds _ (fun i hi=>hf i (by simp [hi])) (h _ wj hR e1 e2) ?_
  cases hd:bN ol j with
  | none=>exact hr
  | some d=>exact hr.cons rfl
theorem wT:∀{dss:List (List Nat)}{k:Nat},kG P n ol fl al Rs l w0 dss k→∀(i:Nat) (o:aP),ol[k+i]?=some o→i<dss.length→
  (if fl.contains (k+i) then uO P ol Rs l w0 (k+i) o ((dss[i]?).getD []) else pD P n ol al Rs l w0 (k+i) o ((dss[i]?).getD []))
 | [],_,_,i,_,_,hi=>by simp at hi
 | ds::dss,k,h,0,o,ho,_=>by
  have:=h.1
  rw [show ol[k]?=some o from ho] at this
  simpa using this
 | ds::dss,k,h,i+1,o,ho,hi=>by
  have e:k+(i+1)=k+1+i:=by omega
  have:=wT h.2 i o (by rw [←e];exact ho) (by simpa using hi)
  rw [e]
  simpa using this
theorem sJ {K K2:Act→a0→Prop}{Q1 Q2:cE→Act→a0→Prop}(h:o.wp P a w K Q1)(hp:∀c a w,¬Q1 (.panic c) a w)(hl:¬LetsOut Q1)(hd:∀a w,K a w→a.defers= [])(hk:∀v w',K (a.put o.dst v) w'→K2 (a.put o.dst v) w'):o.wp P a w K2 Q2:=by
 unfold jQ at*
 generalize (execOp a.eval o).run P w=r at*
 cases r with
 | ok x w'=>
  cases x <;> simp only [jR] at h⊢ <;> first | exact h.elim | skip
  case value v=>exact hk _ _ h
  case skip=>exact hk _ _ h
  case defer d=>
   have:=hd _ _ h
   exfalso
   revert this
   cases o.dst <;> simp [kK]
  case enter f args=>
   refine h.mono fun e w'' H=>?_
   cases e with
   | returned v=>exact hk _ _ H
   | panicked c=>exact (hp _ _ _ H).elim
   | outgrown=>exact (hl H).elim
  case row row args=>exact h.mono fun v w'' H=>hk _ _ H
 | _ x w'=>
  cases x <;> simp only [jR] at h⊢ <;> first | exact h.elim | exact (hp _ _ _ h).elim
theorem kT (ol:List aP)(i:Nat):ol.toArray[i]?=ol[i]?:=by simp
theorem gF:j∈lP .any ol.toArray listed↔
  listed.getD j true=false∧∃o,ol[j]?=some o∧∀e∈o.after,j5 .any e=true→listed.getD e.on false=true:=by
 rw [mem_ready,kT]
theorem gT (h:j<listed.size:=by omega):listed.getD j true=listed.getD j false:=by simp [h]
theorem K6 (h:DrawOk n ol m fl l dss rl)(j:Nat)(o:aP)(cs:Array SelectCase)(b:Bool)(ho:ol.toArray[j]?=some o):o.op≠ .select cs b:=by
 intro e
 have:=h.sel j o (by rw [←kT];exact ho)
 rw [e] at this
 cases this
def nB (N:Nat)(listed:Array Bool):Nat:=(d7 N).countP fun i=> !listed.getD i false
theorem EU {p q:Nat→Bool}{i:Nat}:∀{L:List Nat},i∈L→(∀j,q j=true→p j=true)→p i=true→q i=false→L.countP q<L.countP p
 | [],h,_,_,_=>by cases h
 | j::L,h,hpq,hp,hq=>by
  have hle:L.countP q≤L.countP p:=List.countP_mono_left fun j _=>hpq j
  by_cases e:i=j
  ·subst e
   rw [vA,vA,hp,hq]
   simp;omega
  ·have hi:i∈L:=by
    rcases sC.1 h with h | h
    ·exact absurd h e
    ·exact h
   have:=EU hi hpq hp hq
   rw [vA,vA]
   cases hqj:q j with
   | true=>rw [hpq j hqj];simp;omega
   | false=>simp only [Bool.false_eq_true,if_false];omega
theorem jD (hi:i<N)(hs:listed.size=N)(h:listed.getD i false=false):nB N (listed.setIfInBounds i true)<nB N listed:=by
 refine EU (i:=i) (gC.2 hi) (fun j hj=>?_) (by simp only [h];rfl) ?_
 ·by_cases e:i=j
  ·subst e;simp [hs,hi] at hj
  ·rw [getD_set_ne false e] at hj;exact hj
 ·simp [hs,hi]
def Closed (ol:List aP)(listed:Array Bool):Prop:=∀(i:Nat) (o:aP),ol[i]?=some o→listed.getD i false=true→∀e∈o.after,j5 .any e=true→listed.getD e.on false=true
theorem Closed.set (h:Closed ol listed)(ho:ol[i]?=some o)(hall:∀e∈o.after,j5 .any e=true→listed.getD e.on false=true):Closed ol (listed.setIfInBounds i true):=by
 intro k ok H hl e J hb
 refine getD_set_true ?_
 by_cases I:i=k
 ·subst I
  rw [ho] at H
  cases H
  exact hall e J hb
 ·rw [getD_set_ne false I] at hl
  exact h k ok H hl e J hb
theorem Closed.reach (h:Closed ol listed)(hk:DrawOk n ol m fl l dss rl):∀(i:Nat) (o:aP),ol[i]?=some o→(∀e∈o.after,j5 .any e=true→listed.getD e.on false=true)→∀j∈cO rl i,listed.getD j false=true:=by
 intro i
 induction i using pH with
 | ind i ih=>
  intro o ho hall j hj
  obtain⟨e,he,hb,h1⟩:=hk.reach i o ho j hj
  have hlt:=hk.back i o ho e he hb
  rcases h1 with h1 | h1
  ·rw [←h1];exact hall e he hb
  ·have hN:e.on<ol.length:=Nat.lt_trans hlt (fF.1 ho).1
   exact ih e.on hlt _ (d8 hN) (h e.on _ (d8 hN) (hall e he hb)) j h1
theorem sP (hk:DrawOk n ol m fl l dss rl):∀(fuel k:Nat) (listed:Array Bool) (a:Act) (w:a0),m≤k→k≤ol.length→nB ol.length listed≤fuel→listed.size=ol.length→Closed ol listed→(∀i,i<ol.length→listed.getD i false=decide (i<k))→
  wpList P ol.toArray Q (ol.drop k) a w→wpAny P .any ol.toArray Q fuel listed a w:=by
 intro fuel
 induction fuel with
 | zero=>
  intro k listed a w hm hkl hf hs _ hl h
  have e:k=ol.length:=by
   rcases eB k ol.length with h1 | h1
   ·have h2:listed.getD k false=false:=by rw [hl k h1];simp
    have:=jD h1 hs h2;omega
   ·omega
  subst e
  rw [List.drop_length] at h
  refine wpAny_done ?_ h 0
  refine uY.2 fun j hj=>?_
  obtain⟨h1,o,ho,_⟩:=gF.1 hj
  have hjl:j<ol.length:=(fF.1 ho).1
  rw [gT,hl j hjl] at h1
  simp [hjl] at h1
 | succ fuel ih=>
  intro k listed a w hm hkl hf hs hcl hl h
  rcases eB k ol.length with hlt | hge
  ·obtain⟨o,ho⟩:∃o,ol[k]?=some o:=⟨_,d8 hlt⟩
   have hrdy:k∈lP .any ol.toArray listed:=by
    refine gF.2 ⟨?_,o,ho,fun e he hb=>?_⟩
    ·rw [gT,hl k hlt];simp
    ·have:=hk.back k o ho e he hb
     rw [hl e.on (by omega)];simpa using this
   refine⟨fun h0=>(by rw [h0] at hrdy;cases hrdy),fun i hi=>?_⟩
   obtain⟨h1,o',ho',hall⟩:=gF.1 hi
   have hil:i<ol.length:=(fF.1 ho').1
   rw [gT,hl i hil] at h1
   have hik:k≤i:=by simpa using h1
   have hie:i=k:=by
    rcases eB k i with h2 | h2
    ·rcases hk.tail i o' ho' (by omega) k h2 with h3 | h3
     ·have:=hk.flt k h3;omega
     ·have:=hcl.reach hk i o' ho' hall k h3
      rw [hl k hlt] at this
      simp at this
    ·omega
   subst hie
   have hd:ol.drop i=o::ol.drop (i+1):=by
    rw [zW hlt]
    congr 1
    rw [d8 hlt] at ho
    exact iL ho
   rw [hd] at h
   have hw:wpOp P ol.toArray Q i (wpList P ol.toArray Q (ol.drop (i+1))) a w:=by
    unfold wpOp
    rw [kT,ho]
    unfold wpList at h
    exact h
   refine wpOp_mono (fun a' w' h'=>?_) hw
   refine ih (i+1) _ a' w' (by omega) (by omega) (by have:=jD hil hs (by rw [hl i hil];simp);omega) (by simpa using hs) (hcl.set ho (by rw [ho] at ho';cases ho';exact hall)) (fun j hj=>?_) h'
   by_cases hij:i=j
   ·subst hij
    simp [hs,hil]
   ·rw [getD_set_ne false hij,hl j hj]
    congr 1
    simp only [eq_iff_iff]
    omega
  ·have e:k=ol.length:=by omega
   subst e
   rw [List.drop_length] at h
   refine wpAny_done ?_ h _
   refine uY.2 fun j hj=>?_
   obtain⟨h1,o,ho,_⟩:=gF.1 hj
   have hjl:j<ol.length:=(fF.1 ho).1
   rw [gT,hl j hjl] at h1
   simp [hjl] at h1
theorem Rp.put_far (h:Rp n l a)(hd:∀p∈l,p.1≠d)(v:aF):Rp n l (a.put (some d) v):=by
 refine⟨by simp [kK,h.size],by simp [kK,h.nod],fun i u hi=>?_⟩
 have hne:d≠i:=fun e=>by
  have key:∀(l:Fr),look l i=some u→∃p∈l,p.1=i:=by
   intro l
   induction l with
   | nil=>intro h;cases h
   | cons p r ih=>
    intro h
    obtain⟨j,x⟩:=p
    simp only [look] at h
    cases hb:lT j i with
    | true=>exact⟨(j,x),by simp,o8 hb⟩
    | false=>
     rw [hb] at h
     obtain⟨p,hp,he⟩:=ih h
     exact⟨p,by simp [hp],he⟩
  obtain⟨p,hp,he⟩:=key l hi
  exact hd p hp (he.trans e.symm)
 have:=h.val i u hi
 simp only [kK,kZ] at this⊢
 rwa [zZ hne]
theorem lC (hs:a.tmps.size=n)(hd:d<n)(v:aF):eO (a.put (some d) v) (some d)=v:=by
 simp [eO,kK,hs,hd]
theorem pV (h:e≠some d)(v:aF):eO (a.put (some d) v) e=eO a e:=by
 cases e with
 | none=>rfl
 | some e=>
  have o:d≠e:=fun H=>h (by rw [H])
  simp only [eO,kK,kZ]
  rw [zZ o]
theorem BE (hk:DrawOk n ol m fl l dss rl)(ho:ol[i]?=some o)(him:i<m)(hm:∀i,m≤i→i<ol.length→listed.getD i false=false)(hr:Rp n l a)(hfact:∀i,i<ol.length→listed.getD i false=true→rR ol Rs w0 i a w)(hx:Ext w0 w)(e:Ext w w')(hR:eC Rs i v w'):Rp n l (a.put o.dst v)∧∀j,j<ol.length→(listed.setIfInBounds i true).getD j false=true→rR ol Rs w0 j (a.put o.dst v) w':=by
 obtain⟨d,hd,ac,U,H⟩:=hk.dst i o ho him
 rw [hd]
 refine⟨hr.put_far U v,fun j hj I=>?_⟩
 by_cases J:i=j
 ·subst J
  refine⟨w',hx.trans e,Ext.refl _,?_⟩
  have e1:bN ol i=some d:=by unfold bN;rw [ho];exact hd
  rw [e1,lC hr.size ac]
  exact hR
 ·rw [getD_set_ne false J] at I
  have ab:j<m:=by
   rcases eB j m with h | h
   ·exact h
   ·rw [hm j h hj] at I;cases I
  obtain⟨w1,e1,e2,h1⟩:=hfact j hj I
  refine⟨w1,e1,e2.t e,?_⟩
  rw [pV]
  ·exact h1
  ·obtain⟨oj,aa⟩:∃oj,ol[j]?=some oj:=⟨_,d8 hj⟩
   unfold bN
   rw [aa]
   exact H j oj aa (iB J) ab
theorem jZ (hk:DrawOk n ol m fl l dss rl)(hoi:ol[i]?=some o)(him:i<m)(v:aF)(hne:i≠j)(hjm:j<m):eO (a.put o.dst v) (bN ol j)=eO a (bN ol j):=by
 obtain⟨d,I,_,_,H⟩:=hk.dst i o hoi him
 rw [I]
 refine pV ?_ v
 unfold bN
 obtain⟨oj,h⟩:∃oj,ol[j]?=some oj:=⟨_,d8 (by have:=hk.mle;omega)⟩
 rw [h]
 exact H j oj h (iB hne) hjm
theorem EO {acc:Fr}(_hal:∀i∈al,i<m∧i ∉ fl)(hacc:Rp n acc a)(hdi:∀i∈al,∀j∈al,i≠j→listed.getD i false=true→listed.getD j false=true→∀g,eT (eO a (bN ol i)) g→eT (eO a (bN ol j)) g→False)(hl:∀i∈al,listed.getD i false=true):rS ol al acc:=by
 intro i hi j hj h di dj hdi' hdj' u v I H
 have o:=hdi i hi j hj h (hl i hi) (hl j hj)
 rw [hdi',hdj'] at o
 rw [←hacc.val di u I,←hacc.val dj v H]
 exact o
theorem DA {lk:List (Nat×Nat×Nat)}{acc:Fr}(hacc:Rp n acc a)(hli:∀e∈lk,eO a (bN ol e.1)=qZ e.2.2 (eO a (bN ol e.2.1))):zL ol lk acc:=by
 intro e o di dj hi hj u v I H
 have h:=hli e o
 rw [hi,hj] at h
 rw [←hacc.val di u I,←hacc.val dj v H]
 exact h
theorem M2 (hlk : zK ol m fl dss lk)(hk : DrawOk n ol m fl l dss rl)(hal : ∀ i ∈ al, i < m ∧ i ∉ fl)(hold : rP Rs al)(ho : kG P n ol fl al Rs l w0 dss 0)(hfin : ∀ w1, Ext w0 w1 → Deps ol Rs w0 w1 (fun acc => rS ol al acc → zL ol lk acc → wl P ol.toArray (NP Q) n (ol.drop m) acc w1) (d7 m) l):∀ (fuel : Nat) (listed : Array Bool) (a : Act) (w : a0), nB ol.length listed ≤ fuel → listed.size = ol.length → Closed ol listed → (∀ i, m ≤ i → i < ol.length → listed.getD i false = false) → Rp n l a → Ext w0 w →
      (∀ i, i < ol.length → listed.getD i false = true → rR ol Rs w0 i a w) → (∀ i ∈ al, ∀ j ∈ al, i ≠ j → listed.getD i false = true → listed.getD j false = true → ∀ g, eT (eO a (bN ol i)) g → eT (eO a (bN ol j)) g → False) → (∀ e ∈ lk, listed.getD e.1 false = true → eO a (bN ol e.1) = qZ e.2.2 (eO a (bN ol e.2.1))) → wpAny P .any ol.toArray (NP Q) fuel listed a w := by
  intro fuel
  induction fuel with
  | zero =>
    intro listed a w hf hs hcl hm hr hx hfact hdi hli
    have hall : ∀ i, i < ol.length → listed.getD i false = true := by
      intro i hi
      cases h : listed.getD i false with
      | true => rfl
      | false => have := jD hi hs h; omega
    have hml : m = ol.length := by
      rcases eB m ol.length with h | h
      · have h1 := hm m (aI _) h
        rw [hall m h] at h1; cases h1
      · have := hk.mle; omega
    obtain ⟨acc, hacc, hwl⟩ := Deps.apply (n := n) (d7 m) l (fun j hj => hfact j (by have := gC.1 hj; omega) (hall j (by have := gC.1 hj; omega))) (hfin w hx) hr
    exact sP hk 0 m listed a w (aI _) (by omega) hf hs hcl (fun i hi => by rw [hall i hi]; simp; omega) (hwl (EO hal hacc hdi (fun i hi => hall i (by have := (hal i hi).1; omega))) (DA hacc fun e he => hli e he (hall e.1 (by have := (hlk e he).1; omega))) a hacc)
  | succ fuel ih =>
    intro listed a w hf hs hcl hm hr hx hfact hdi hli
    by_cases hdone : ∀ i, i < m → listed.getD i false = true
    · obtain ⟨acc, hacc, hwl⟩ := Deps.apply (n := n) (d7 m) l (fun j hj => hfact j (by have := gC.1 hj; have := hk.mle; omega) (hdone j (gC.1 hj))) (hfin w hx) hr
      exact sP hk (fuel + 1) m listed a w (aI _) hk.mle hf hs hcl (fun i hi => by
        rcases eB i m with h | h
        · rw [hdone i h]; simpa using h
        · rw [hm i h hi]; simp; omega) (hwl (EO hal hacc hdi (fun i hi => hdone i (hal i hi).1)) (DA hacc fun e he => hli e he (hdone e.1 (hlk e he).1)) a hacc)
    · -- the least that is not listed
      obtain ⟨j, hjm, hjl, hleast⟩ : ∃ j, j < m ∧ listed.getD j false = false ∧ ∀ i, i < j → listed.getD i false = true := by
        have key : ∀ k, (∃ j, j < m ∧ j < k ∧ listed.getD j false = false) → ∃ j, j < m ∧ listed.getD j false = false ∧ ∀ i, i < j → listed.getD i false = true := by
          intro k
          induction k with
          | zero => rintro ⟨j, _, h, _⟩; omega
          | succ k ihk =>
            rintro ⟨j, h1, h2, h3⟩
            by_cases hs' : ∃ j, j < m ∧ j < k ∧ listed.getD j false = false
            · exact ihk hs'
            · refine ⟨j, h1, h3, fun i hi => ?_⟩
              cases hb : listed.getD i false with
              | true => rfl
              | false => exact absurd ⟨i, by omega, by omega, hb⟩ hs'
        refine key m (Classical.byContradiction fun hno => hdone fun i hi => ?_)
        cases hb : listed.getD i false with
        | true => rfl
        | false => exact absurd ⟨i, hi, hi, hb⟩ hno
      have hml := hk.mle
      obtain ⟨oj, hoj⟩ : ∃ oj, ol[j]? = some oj := ⟨_, d8 (by omega)⟩
      have hjr : j ∈ lP .any ol.toArray listed := gF.2 ⟨by rw [gT]; exact hjl, oj, hoj, fun e he hb => hleast _ (hk.back j oj hoj e he hb)⟩
      have facts_of : ∀ (i : Nat) (o : aP), ol[i]? = some o → i < m → i ∈ lP .any ol.toArray listed → ∀ k ∈ (dss[i]?).getD [], rR ol Rs w0 k a w := by
        intro i o hoi him hir k hkd
        have h1 := hk.deps i o hoi him k hkd
        obtain ⟨_, o', ho', hall⟩ := gF.1 hir
        rw [hoi] at ho'
        cases ho'
        have h2 := hcl.reach hk i o hoi hall k h1
        have h3 : k < listed.size := by
          rcases eB k listed.size with h' | h'
          · exact h'
          · simp [Array.getElem?_eq_none h'] at h2
        exact hfact k (by omega) h2
      by_cases hfl : ∃ i ∈ fl, i ∈ lP .any ol.toArray listed
      · obtain ⟨i, hif, hir⟩ := hfl
        have him := hk.flt i hif
        obtain ⟨hun, o, hoi, hall⟩ := gF.1 hir
        have aA := wT (k := 0) ho i o (by simpa using hoi) (by rw [hk.dlen]; exact him)
        rw [fE, if_pos (by simpa using hif)] at aA
        obtain ⟨acc, hacc, v, hkn, hgd, hrun, hR⟩ := Deps.apply (n := n) _ l (facts_of i o hoi him hir) (aA w hx) hr
        have hy : Yields P ol.toArray o v a := bE ⟨by obtain ⟨d, op, ty, pos, af, gd⟩ := o; exact sN hgd hacc, fun w => by
          obtain ⟨d, op, ty, pos, af, gd⟩ := o
          rw [oY hkn hacc]; exact hrun w⟩
        have hex : (execOp a.eval o).run P w = .ok (.value v) w := by
          obtain ⟨d, op, ty, pos, af, gd⟩ := o
          rw [oY hkn hacc]; exact hrun w
        have hun' : listed.getD i false = false := by rw [← gT]; exact hun
        obtain ⟨h1, h2⟩ := BE hk hoi him hm hr hfact hx aB hR
        refine wpAny_first (by rw [kT]; exact hoi) (K6 hk) (fun c a w h => h.elim) fuel listed a w (fun k ok hok hki hkun hno => ?_) hir hy ?_
        · have hnr : k ∉ cO rl i := fun hm => by
            have h1 := hcl.reach hk i o hoi hall k hm
            have h2 : k < ol.length := (fF.1 (show ol[k]? = some ok by rw [← kT]; exact hok)).1
            rw [gT, h1] at hkun; cases hkun
          rcases hk.free i o hoi hif k ok (by rw [← kT]; exact hok) hki hnr with h | h
          · obtain ⟨e, he, hb, heq⟩ := M3 h
            exact absurd heq (hno e he hb)
          · exact h
        · refine ih _ _ w (by have := jD (by omega) hs hun'; omega) (by simpa using hs) (hcl.set hoi hall) (fun k hmk hk' => ?_) h1 hx h2 (fun i' hi' j' hj' hne hli hlj => ?_) (fun e he hl => ?_)
          · rw [getD_set_ne false (by omega)]; exact hm k hmk hk'
          · have e1 : i ≠ i' := fun e => (hal i' hi').2 (e ▸ hif)
            have e2 : i ≠ j' := fun e => (hal j' hj').2 (e ▸ hif)
            rw [getD_set_ne false e1] at hli
            rw [getD_set_ne false e2] at hlj
            rw [jZ hk hoi him v e1 (hal i' hi').1, jZ hk hoi him v e2 (hal j' hj').1]
            exact hdi i' hi' j' hj' hne hli hlj
          · obtain ⟨k1, k2, k3, k4, o', t, k5, k6, k7⟩ := hlk e he
            have dep_ne : listed.getD e.2.1 false = true → i ≠ e.2.1 := fun h e' => by rw [← e', hun'] at h; cases h
            by_cases hie : i = e.1
            · have hdl : listed.getD e.2.1 false = true := hcl.reach hk i o hoi hall _ (by have := hk.deps i o hoi him e.2.1 (by rw [hie]; exact k4); exact this)
              rw [jZ hk hoi him v (dep_ne hdl) k3]
              obtain ⟨d, hd, hdn, _⟩ := hk.dst i o hoi him
              have e1 : bN ol e.1 = some d := by rw [← hie]; unfold bN; rw [hoi]; exact hd
              rw [e1, hd, lC hr.size hdn, k7]
              have e2 : o' = o := by rw [← hie, hoi] at k5; exact (iL k5).symm
              exact OX (o := o) (by rw [← e2]; exact k6) hex
            · rw [getD_set_ne false hie] at hl
              have hdl : listed.getD e.2.1 false = true := hcl.reach hk e.1 o' k5 (fun x hx hb => hcl e.1 o' k5 hl x hx hb) _ (hk.deps e.1 o' k5 k1 e.2.1 k4)
              rw [jZ hk hoi him v hie k1, jZ hk hoi him v (dep_ne hdl) k3]
              exact hli e he hl
      · have hjf : j ∉ fl := fun h => hfl ⟨j, h, hjr⟩
        refine ⟨fun h0 => (by rw [h0] at hjr; cases hjr), fun i hir => ?_⟩
        obtain ⟨hun, o, hoi, hall⟩ := gF.1 hir
        have hil : i < ol.length := (fF.1 hoi).1
        have him : i < m := by
          rcases eB i m with h | h
          · exact h
          · rcases hk.tail i o hoi h j (by omega) with h1 | h1
            · exact absurd h1 hjf
            · have := hcl.reach hk i o hoi hall j h1
              rw [hjl] at this; cases this
        have hif : i ∉ fl := fun h => hfl ⟨i, h, hir⟩
        have hun' : listed.getD i false = false := by rw [← gT]; exact hun
        have aA := wT (k := 0) ho i o (by simpa using hoi) (by rw [hk.dlen]; exact him)
        rw [fE, if_neg (by simpa using hif)] at aA
        obtain ⟨acc, hacc, hwl⟩ := Deps.apply (n := n) _ l (facts_of i o hoi him hir) (aA w hx) hr
        have hl := hwl a hacc
        have next : ∀ v w', kF w o.dst (fun v w' => eC Rs i v w' ∧ (al.contains i = true → mQ w v)) .normal (a.put o.dst v) w' → wpAny P .any ol.toArray (NP Q) fuel (listed.setIfInBounds i true) (a.put o.dst v) w' := by
          intro v w' hpi
          obtain ⟨e, hR, _⟩ := hpi
          have hv : eC Rs i v w' ∧ (al.contains i = true → mQ w v) := by
            obtain ⟨d, hd, hdn, _⟩ := hk.dst i o hoi him
            rw [hd, lC hr.size hdn] at hR
            exact hR
          obtain ⟨h1, h2⟩ := BE hk hoi him hm hr hfact hx e hv.1
          have hself : eO (a.put o.dst v) (bN ol i) = v := by
            obtain ⟨d, hd, hdn, _⟩ := hk.dst i o hoi him
            have e1 : bN ol i = some d := by unfold bN; rw [hoi]; exact hd
            rw [e1, hd, lC hr.size hdn]
          have fresh : ∀ j ∈ al, j ≠ i → listed.getD j false = true → al.contains i = true → ∀ g, eT (eO a (bN ol j)) g → eT v g → False := by
            intro j hj hji hlj hci g hg hg'
            obtain ⟨wj, _, f2, hRj⟩ := hfact j (by have := (hal j hj).1; omega) hlj
            have hlt := CL hold j hj _ _ hRj g hg
            have hge := hv.2 hci g hg'
            have := f2.size
            omega
          refine ih _ _ w' (by have := jD hil hs hun'; omega) (by simpa using hs) (hcl.set hoi hall) (fun k hmk hk' => ?_) h1 (hx.trans e) h2 (fun i' hi' j' hj' hne hli hlj => ?_) (fun e he hl => ?_)
          · rw [getD_set_ne false (by omega)]; exact hm k hmk hk'
          · by_cases e1 : i = i'
            · subst e1
              rw [getD_set_ne false hne] at hlj
              rw [hself, jZ hk hoi him v hne (hal j' hj').1]
              exact fun g h h' => fresh j' hj' (iB hne) hlj (by simpa using hi') g h' h
            · rw [getD_set_ne false e1] at hli
              by_cases e2 : i = j'
              · subst e2
                rw [hself, jZ hk hoi him v e1 (hal i' hi').1]
                exact fresh i' hi' (iB e1) hli (by simpa using hj')
              · rw [getD_set_ne false e2] at hlj
                rw [jZ hk hoi him v e1 (hal i' hi').1, jZ hk hoi him v e2 (hal j' hj').1]
                exact hdi i' hi' j' hj' hne hli hlj
          · obtain ⟨k1, k2, k3, k4, o', t, k5, k6, k7⟩ := hlk e he
            have hie : i ≠ e.1 := fun e' => hif (e' ▸ k2)
            rw [getD_set_ne false hie] at hl
            have hdl : listed.getD e.2.1 false = true := hcl.reach hk e.1 o' k5 (fun x hx hb => hcl e.1 o' k5 hl x hx hb) _ (hk.deps e.1 o' k5 k1 e.2.1 k4)
            rw [jZ hk hoi him v hie k1, jZ hk hoi him v (fun e' => by rw [← e', hun'] at hdl; cases hdl) k3]
            exact hli e he hl
        have nolets : ¬ LetsOut (kF w o.dst (fun v w' => eC Rs i v w' ∧ (al.contains i = true → mQ w v))) := fun ⟨_, _, h⟩ => h
        unfold wpOp
        rw [kT, hoi]
        unfold wpList at hl
        simp only at hl ⊢
        split at hl
        · rename_i hw
          rw [if_pos hw]
          rcases hl with hl | hl
          · exact bE (sJ hl (fun _ _ _ h => h) nolets (fun a w h => h.2.2) (fun v w' h => next v w' h))
          · exact absurd hl.2 nolets
        · rename_i hw
          rw [if_neg hw]
          exact next _ _ hl
theorem PT (hmix:P.follows .mixedOrders=true)(m:Nat)(fl al:List Nat)(lk:List (Nat×Nat×Nat))(Rs:List (aF→a0→Prop))(dss:List (List Nat))(rl:List (List Nat))(hk:nT n ol m fl l dss rl=true)(hal:al.all (fun i=>decide (i<m)&& !fl.contains i)=true)(hold:rP Rs al)(hlk:zK ol m fl dss lk)(ho:kG P n ol fl al Rs l w dss 0)(hfin:∀w1,Ext w w1→Deps ol Rs w w1 (fun acc=>rS ol al acc→zL ol lk acc→wl P ol.toArray (NP Q) n (ol.drop m) acc w1) (d7 m) l):cw P Q n (.region id ol.toArray true) l w:=fun a J=>by
 refine Code.wp_mono NP.imp (wp_region_any hmix ?_)
 have I:(kY ol.toArray.size false).size=ol.length:=by simp
 have H:∀i,(kY ol.toArray.size false).getD i false=false:=by
  intro i
  simp only [kZ,vH]
  split <;> rfl
 have hal':∀i∈al,i<m∧i ∉ fl:=by
  intro i hi
  rw [eZ] at hal
  simpa using hal i hi
 refine M2 hlk (EJ hk) hal' hold ho hfin ol.toArray.size _ a _ ?_ I (fun i o ho h=>by rw [H i] at h;cases h) (fun i _ hi=>H i) J (Ext.refl w).drew (fun i hi h=>by rw [H i] at h;cases h) (fun i _ j _ _ h=>by rw [H i] at h;cases h) (fun e _ h=>by rw [H e.1] at h;cases h)
 refine a7 uZ ?_
 simp
theorem LG:zK ol m fl dss []:=fun e h=>by cases h
theorem tY (hmix:P.follows .mixedOrders=true)(m:Nat)(fl al:List Nat)(Rs:List (aF→a0→Prop))(dss:List (List Nat))(rl:List (List Nat))(hk:nT n ol m fl l dss rl=true)(hal:al.all (fun i=>decide (i<m)&& !fl.contains i)=true)(hold:rP Rs al)(ho:kG P n ol fl al Rs l w dss 0)(hfin:∀w1,Ext w w1→Deps ol Rs w w1 (fun acc=>rS ol al acc→wl P ol.toArray (NP Q) n (ol.drop m) acc w1) (d7 m) l):cw P Q n (.region id ol.toArray true) l w:=
 PT hmix m fl al [] Rs dss rl hk hal hold LG ho (fun w1 h=>Deps.weak (fun _ o H _=>o H) _ _ (hfin w1 h))
theorem dP (hmix:P.follows .mixedOrders=true)(m:Nat)(fl:List Nat)(Rs:List (aF→a0→Prop))(dss:List (List Nat))(rl:List (List Nat))(hk:nT n ol m fl l dss rl=true)(ho:kG P n ol fl [] Rs l w dss 0)(hfin:∀w1,Ext w w1→Deps ol Rs w w1 (fun acc=>wl P ol.toArray (NP Q) n (ol.drop m) acc w1) (d7 m) l):cw P Q n (.region id ol.toArray true) l w:=
 tY hmix m fl [] Rs dss rl hk G Ht ho (fun w1 h=>Deps.weak (k:=fun acc=>wl P ol.toArray (NP Q) n (ol.drop m) acc w1) (k':=fun acc=>rS ol [] acc→wl P ol.toArray (NP Q) n (ol.drop m) acc w1) (fun _ o _=>o) _ _ (hfin w1 h))
theorem dF:kG P n ol fl al Rs l w [] k:=trivial
theorem aD (ho:ol[k]?=some o)(hf:fl.contains k=false)(h:pD P n ol al Rs l w k o ds)(h':kG P n ol fl al Rs l w dss (k+1)):kG P n ol fl al Rs l w (ds::dss) k:=
 ⟨by rw [ho];simp only;rw [hf];exact h,h'⟩
theorem gH (ho:ol[k]?=some o)(hf:fl.contains k=true)(h:uO P ol Rs l w k o ds)(h':kG P n ol fl al Rs l w dss (k+1)):kG P n ol fl al Rs l w (ds::dss) k:=
 ⟨by rw [ho];simp only;rw [hf];exact h,h'⟩
theorem aA {R:aF→a0→Prop}(hR:Rs[k]?=some R)(hn:al.contains k=false)(h:∀w1,Ext w w1→Deps ol Rs w w1 (fun acc=>wl P ol.toArray (kF w1 o.dst R) n [o] acc w1) ds l):pD P n ol al Rs l w k o ds:=by
 have e:eC Rs k=R:=by unfold eC;rw [hR];rfl
 intro w1 hw
 rw [e]
 refine Deps.weak (fun acc h1 a ha=>?_) _ _ (h w1 hw)
 have I:=h1 a ha
 unfold wpList at I⊢
 have imp:∀a' w',kF w1 o.dst R .normal a' w'→kF w1 o.dst (fun v w=>R v w∧(al.contains k=true→mQ w1 v)) .normal a' w':=fun a' w' J=>⟨J.1,⟨J.2.1,fun U=>by rw [hn] at U;cases U⟩,J.2.2⟩
 split at I
 ·rename_i H
  rw [if_pos H]
  rcases I with I | I
  ·exact bE (sJ I (fun _ _ _ h=>h) (fun⟨_,_,h⟩=>h) (fun a w h=>h.2.2) (fun v w' h=>imp _ _ h))
  ·exact absurd I.2 (fun⟨_,_,h⟩=>h)
 ·rename_i H
  rw [if_neg H]
  exact imp _ _ I
theorem xT {N:a0→aF→Prop}(hN:∀w v,N w v→mQ w v){R:aF→a0→Prop}(hR:Rs[k]?=some R)(h:∀w1,Ext w w1→Deps ol Rs w w1 (fun acc=>wl P ol.toArray (kF w1 o.dst (fun v w=>R v w∧N w1 v)) n [o] acc w1) ds l):pD P n ol al Rs l w k o ds:=by
 have e:eC Rs k=R:=by unfold eC;rw [hR];rfl
 intro w1 U
 rw [e]
 refine Deps.weak (fun acc h1 a ha=>?_) _ _ (h w1 U)
 have I:=h1 a ha
 unfold wpList at I⊢
 have imp:∀a' w',kF w1 o.dst (fun v w=>R v w∧N w1 v) .normal a' w'→kF w1 o.dst (fun v w=>R v w∧(al.contains k=true→mQ w1 v)) .normal a' w':=fun a' w' J=>⟨J.1,⟨J.2.1.1,fun _=>hN _ _ J.2.1.2⟩,J.2.2⟩
 split at I
 ·rename_i H
  rw [if_pos H]
  rcases I with I | I
  ·exact bE (sJ I (fun _ _ _ h=>h) (fun⟨_,_,h⟩=>h) (fun a w h=>h.2.2) (fun v w' h=>imp _ _ h))
  ·exact absurd I.2 (fun⟨_,_,h⟩=>h)
 ·rename_i H
  rw [if_neg H]
  exact imp _ _ I
theorem NewVr.in_ (w:a0)(v:aF)(h:NewVr w v):mQ w v:=by
 obtain⟨g,rfl,h⟩:=h
 intro k o
 rw [DF o];exact h
theorem tP {R:aF→a0→Prop}(hR:Rs[k]?=some R)(h:∀w1,Ext w w1→Deps ol Rs w w1 (fun acc=>wl P ol.toArray (kF w1 o.dst (fun v w=>R v w∧NewVr w1 v)) n [o] acc w1) ds l):pD P n ol al Rs l w k o ds:=xT NewVr.in_ hR h
theorem gM {R:aF→a0→Prop}(hR:Rs[k]?=some R)(h:∀w1,Ext w w1→Deps ol Rs w w1 (fun acc=>∃v,jL acc o.op=true∧cZ ol.toArray acc o.guard=some true∧(∀w,(execOp (rho acc) o).run P w= .ok (.value v) w)∧R v w1) ds l):uO P ol Rs l w k o ds:=by
 have e:eC Rs k=R:=by unfold eC;rw [hR];rfl
 intro w1 H
 rw [e]
 exact h w1 H
end
def gW (P:bP)(n:Nat)(l:Fr)(o:aP)(w:a0)(x:Next)(w':a0):Prop:=∀a,Rp n l a→(execOp a.eval o).run P w= .ok x w'
section
variable {P:bP}{n:Nat}{l:Fr}{w:a0}{d:Nat}{op:Op}{ty:aO}{pos:String}{af:Array Edge}{gd:Option (Nat×Bool)}
theorem eH (hk:jL l op=true)(hr:(execOp (rho l) ⟨dst,op,ty,pos,af,gd⟩).run P w= .ok (.value v) w:=by kernel_rfl):gW P n l ⟨dst,op,ty,pos,af,gd⟩ w (.value v) w:=fun a h=>by rw [oY hk h];exact hr
theorem cN {x:cA}{t:aO}(hx:bT l x=some (.pointer (some p)))(hl:(loadVar t p).run P w= .ok v w):gW P n l ⟨dst,.load t x,ty,pos,af,gd⟩ w (.value v) w:=fun a h=>by
 have e:(vD t (a.eval x)).run P w= .ok v w:=by rw [h.ev hx];exact hl
 show ((vD t (a.eval x)>>=fun r=>pure (iA r):Sem Next)).run P w=_
 rw [c8,e];rfl
theorem gG {x y:cA}{t:aO}(hx:bT l x=some (.pointer (some p)))(hy:bT l y=some v)(hs:(storeVar t p v).run P w= .ok () w'):gW P n l ⟨dst,.store t x y,ty,pos,af,gd⟩ w .skip w':=fun a h=>by
 have e:(vC t (a.eval x) (a.eval y)).run P w= .ok () w':=by rw [h.ev hx,h.ev hy];exact hs
 show ((vC t (a.eval x) (a.eval y)>>=fun _=>pure Next.skip:Sem Next)).run P w=_
 rw [c8,e];rfl
theorem wM {x:cA}(hx:bT l x=some v):gW P n l ⟨dst,.assign x,ty,pos,af,gd⟩ w (.value v) w:=fun a h=>by simp only [execOp,h.ev hx];rfl
theorem dJ {x:cA}(hx:bT l x=some v):gW P n l ⟨dst,.move x,ty,pos,af,gd⟩ w (.value v) w:=fun a h=>by simp only [execOp,h.ev hx];rfl
end
def dfr (ol:List aP)(vs:List aF)(l:Fr):List Nat→Fr
 | []=>l
 | j::ds=>iQ (bN ol j) ((vs[j]?).getD undef) (dfr ol vs l ds)
def wv (ws:List a0)(w:a0)(t:Nat):a0:=(ws[t]?).getD w
section
variable (P:bP) (n:Nat) (ol:List aP) (vs:List aF) (ws:List a0) (w:a0) (dss:List (List Nat)) (l:Fr) (st:List Nat)
def rT (i t:Nat):Prop:=
 match ol[i]? with
 | some o=>if st.contains i then gW P n (dfr ol vs l (cO dss i)) o (wv ws w t) .skip (wv ws w (t+1)) else gW P n (dfr ol vs l (cO dss i)) o (wv ws w t) (.value ((vs[i]?).getD undef)) (wv ws w t)
 | none=>True
def lO:List (Nat×Nat)→Prop
 | []=>True
 | (i,t)::r=>rT P n ol vs ws w dss l st i t∧lO r
def FK (ol:List aP)(vs:List aF)(l:Fr):Fr:=dfr ol vs l (d7 ol.length)
end
def kR (st js:List Nat):Nat:=(st.filter fun s=>js.contains s).length
def tX (n : Nat)(ol : List aP)(st : List Nat)(l : Fr)(dss rl : List (List Nat))(ps : List (Nat × Nat)): Bool :=
  (ol.zipIdx.all fun (o, i) => (match o.guard with | none => true | some _ => false) && (o.after.toList.all fun e => !Region.binds .any e || decide (e.on < i)) &&
    ((cO rl i).all fun j => decide (j < i) && o.after.toList.any fun e => j5 .any e && (e.on == j || (cO rl e.on).contains j)) &&
    ((cO dss i).all fun j => (cO rl i).contains j) &&
    (match o.dst with
     | some d => !st.contains i && decide (d < n) && l.all (fun p => p.1 != d) && ol.zipIdx.all (fun (o', j) => j == i || o'.dst != some d)
     | none => st.contains i) &&
    (d7 (st.length + 1)).all (fun t => decide (t < kR st (cO rl i)) || (t != 0 && (cO rl (st.getD (t - 1) 0)).contains i) || (st.contains i && t != kR st (cO rl i)) || ps.contains (i, t))) &&
  (d7 st.length).all (fun t => decide (st.getD t 0 < ol.length) && (d7 t).all fun u => (cO rl (st.getD t 0)).contains (st.getD u 0))
structure DetOk (n:Nat)(ol:List aP)(st:List Nat)(l:Fr)(dss rl:List (List Nat))(ps:List (Nat×Nat)):Prop where
 guard:∀(i:Nat) (o:aP),ol[i]?=some o→o.guard=none
 back:∀(i:Nat) (o:aP),ol[i]?=some o→∀e∈o.after,j5 .any e=true→e.on<i
 reach:∀(i:Nat) (o:aP),ol[i]?=some o→∀j∈cO rl i,j<i∧∃e∈o.after,j5 .any e=true∧(e.on=j∨j∈cO rl e.on)
 deps:∀(i:Nat) (o:aP),ol[i]?=some o→∀j∈cO dss i,j∈cO rl i
 val:∀(i:Nat) (o:aP),ol[i]?=some o→∀d,o.dst=some d→i ∉ st∧d<n∧(∀p∈l,p.1≠d)∧∀(j:Nat) (o':aP),ol[j]?=some o'→j≠i→o'.dst≠some d
 sto:∀(i:Nat) (o:aP),ol[i]?=some o→o.dst=none→i∈st
 pair:∀(i:Nat) (o:aP),ol[i]?=some o→∀t,t≤st.length→kR st (cO rl i)≤t→(t=0∨i ∉ cO rl (st.getD (t-1) 0))→(i∈st→t=kR st (cO rl i))→(i,t)∈ps
 inN:∀t,t<st.length→st.getD t 0<ol.length
 ord:∀t,t<st.length→∀u,u<t→st.getD u 0∈cO rl (st.getD t 0)
theorem EP {l:Fr}{rl:List (List Nat)}(h:tX n ol st l dss rl ps=true):DetOk n ol st l dss rl ps:=by
 simp only [tX,dU] at h
 obtain⟨h1,h2⟩:=h
 have key:=fun (i:Nat) (o:aP) (H:ol[i]?=some o)=>rH h1 i o H
 simp only [dU] at key
 have I:∀t,t<st.length→st.getD t 0<ol.length∧∀u,u<t→st.getD u 0∈cO rl (st.getD t 0):=by
  intro t J
  rw [eZ] at h2
  have:=h2 t (gC.2 J)
  simp only [dU,decide_eq_true_eq,eZ,gC,j8] at this
  exact this
 refine⟨fun i o H=>?_,fun i o H e he hb=>?_,fun i o H j hj=>?_,fun i o H j hj=>?_,fun i o H d hd=>?_,fun i o H hd=>?_,fun i o H t J _ hz hs=>?_,fun t J=>(I t J).1,fun t J=>(I t J).2⟩
 ·have:=(key i o H).1.1.1.1.1
  cases hg:o.guard with
  | none=>rfl
  | some g=>rw [hg] at this;cases this
 ·have:=(key i o H).1.1.1.1.2
  rw [eZ] at this
  have:=this e (by simpa using he)
  simpa [hb] using this
 ·have:=(key i o H).1.1.1.2
  rw [eZ] at this
  have:=this j hj
  simp only [dU,decide_eq_true_eq,zX,mY,beq_iff_eq,j8] at this
  obtain⟨U,e,he,hb,h4⟩:=this
  exact⟨U,e,by simpa using he,hb,h4⟩
 ·have:=(key i o H).1.1.2
  rw [eZ] at this
  simpa using this j hj
 ·have:=(key i o H).1.2
  rw [hd] at this
  simp only [dU,vG,decide_eq_true_eq] at this
  obtain⟨⟨⟨U,h4⟩,h5⟩,h6⟩:=this
  refine⟨fun hm=>?_,h4,fun p hp=>?_,fun j o' ho' ab e=>?_⟩
  ·rw [j8.2 hm] at U;cases U
  ·rw [eZ] at h5
   simpa using h5 p hp
  ·have:=rH h6 j o' ho'
   simp only [mY,beq_iff_eq,bne_iff_ne] at this
   rcases this with h | h
   ·exact ab h
   ·exact h e
 ·have:=(key i o H).1.2
  rw [hd] at this
  exact j8.1 this
 ·have:=(key i o H).2
  rw [eZ] at this
  have:=this t (gC.2 (by omega))
  simp only [mY,dU,decide_eq_true_eq,bne_iff_ne,ne_eq,j8] at this
  rcases this with ((h | h) | h) | h
  ·omega
  ·rcases hz with h0 | h0
   ·exact absurd h0 h.1
   ·exact absurd h.2 h0
  ·exact absurd (hs h.1) h.2
  ·exact h
section
variable {P:bP}{Q:cE→Act→a0→Prop}{n:Nat}{ol:List aP}{vs:List aF}{ws:List a0}{w:a0}{dss rl:List (List Nat)}{l:Fr}{st:List Nat}{ps:List (Nat×Nat)}
theorem EK:∀{ps:List (Nat×Nat)},lO P n ol vs ws w dss l st ps→∀i t,(i,t)∈ps→rT P n ol vs ws w dss l st i t
 | [],_,i,t,h=>by cases h
 | (j,u)::r,h,i,t,hm=>by
  rcases sC.1 hm with e | e
  ·cases e;exact h.1
  ·exact EK h.2 i t e
theorem Rp.dfr {a:Act}(hr:Rp n l a):∀(ds:List Nat),(∀j∈ds,∀d,bN ol j=some d→a.tmps.getD d undef=(vs[j]?).getD undef)→Rp n (Go.Proofs.YtnpbbknemflpnaaGreat.dfr ol vs l ds) a
 | [],_=>hr
 | j::ds,h=>by
  have ih:=Rp.dfr hr ds (fun i hi=>h i (by simp [hi]))
  simp only [Go.Proofs.YtnpbbknemflpnaaGreat.dfr]
  cases hd:bN ol j with
  | none=>exact ih
  | some d=>exact ih.cons (h j (by simp) d hd)
theorem tZ (hk:DetOk n ol st l dss rl ps)(h:Closed ol listed):∀(i:Nat) (o:aP),ol[i]?=some o→(∀e∈o.after,j5 .any e=true→listed.getD e.on false=true)→∀j∈cO rl i,listed.getD j false=true:=by
 intro i
 induction i using pH with
 | ind i ih=>
  intro o ho hall j hj
  obtain⟨_,e,he,hb,h1⟩:=hk.reach i o ho j hj
  have hlt:=hk.back i o ho e he hb
  rcases h1 with h1 | h1
  ·rw [←h1];exact hall e he hb
  ·have hN:e.on<ol.length:=Nat.lt_trans hlt (fF.1 ho).1
   exact ih e.on hlt _ (d8 hN) (h e.on _ (d8 hN) (hall e he hb)) j h1
theorem PU {t:Nat}(h:∀u,t≤u→u<st.length→st.getD u 0 ∉ js):kR st js≤t:=by
 unfold kR
 have e:st.filter (fun s=>js.contains s)=(st.take t).filter (fun s=>js.contains s)++(st.drop t).filter (fun s=>js.contains s):=by rw [←G7,uV]
 have I:(st.drop t).filter (fun s=>js.contains s)= []:=by
  refine List.filter_eq_nil_iff.2 fun s H=>?_
  obtain⟨u,o,rfl⟩:=zV H
  rw [kX] at o
  have:=h (t+u) (by omega) (by omega)
  rw [List.getElem_drop]
  rw [bO,d8 (by omega)] at this
  simpa using this
 rw [e,I,List.append_nil]
 refine a7 (List.length_filter_le _ _) ?_
 rw [dH];omega
theorem LP {t:Nat}(ht:t≤st.length)(h:∀u,u<t→st.getD u 0∈js):t≤kR st js:=by
 unfold kR
 have e:st.filter (fun s=>js.contains s)=(st.take t).filter (fun s=>js.contains s)++(st.drop t).filter (fun s=>js.contains s):=by rw [←G7,uV]
 have I:(st.take t).filter (fun s=>js.contains s)=st.take t:=by
  refine List.filter_eq_self.2 fun s H=>?_
  obtain⟨u,o,rfl⟩:=zV H
  rw [dH] at o
  have:=h u (by omega)
  rw [List.getElem_take]
  rw [bO,d8 (by omega)] at this
  simpa using this
 rw [e,I,List.length_append,dH];omega
theorem PM (hk:DetOk n ol st l dss rl ps)(ho:lO P n ol vs ws w dss l st ps)(hfin:eo Q .normal n (FK ol vs l) (wv ws w st.length)):∀(fuel:Nat) (listed:Array Bool) (a:Act) (t:Nat),nB ol.length listed≤fuel→listed.size=ol.length→Closed ol listed→t≤st.length→(∀u,u<st.length→listed.getD (st.getD u 0) false=decide (u<t))→Rp n l a→
   (∀i,i<ol.length→listed.getD i false=true→∀d,bN ol i=some d→a.tmps.getD d undef=(vs[i]?).getD undef)→wpAny P .any ol.toArray Q fuel listed a (wv ws w t):=by
 have fin:∀(listed:Array Bool) (a:Act) (t:Nat),(∀i,i<ol.length→listed.getD i false=true)→t≤st.length→(∀u,u<st.length→listed.getD (st.getD u 0) false=decide (u<t))→Rp n l a→
   (∀i,i<ol.length→listed.getD i false=true→∀d,bN ol i=some d→a.tmps.getD d undef=(vs[i]?).getD undef)→Q .normal a (wv ws w t):=by
  intro listed a t hall ht hst hr hv
  have e:t=st.length:=by
   rcases eB t st.length with h | h
   ·have h1:=hst t h
    rw [hall _ (hk.inN t h)] at h1
    simp at h1
   ·omega
  subst e
  exact hfin a (hr.dfr _ fun j hj d hd=>hv j (gC.1 hj) (hall j (gC.1 hj)) d hd)
 intro fuel
 induction fuel with
 | zero=>
  intro listed a t hf hs hcl ht hst hr hv
  have hall:∀i,i<ol.length→listed.getD i false=true:=by
   intro i hi
   cases h:listed.getD i false with
   | true=>rfl
   | false=>have:=jD hi hs h;omega
  refine⟨?_,fin listed a t hall ht hst hr hv⟩
  refine uY.2 fun j hj=>?_
  obtain⟨h1,o,hoj,_⟩:=gF.1 hj
  have hjl:j<ol.length:=(fF.1 hoj).1
  rw [gT,hall j hjl] at h1
  cases h1
 | succ fuel ih=>
  intro listed a t hf hs hcl ht hst hr hv
  refine⟨fun h0=>?_,fun i hir=>?_⟩
  ·refine fin listed a t (fun i hi=>?_) ht hst hr hv
   have key:∀k,k≤ol.length→∀i,i<k→listed.getD i false=true:=by
    intro k
    induction k with
    | zero=>intro _ i hi;omega
    | succ k ihk=>
     intro hk' i hi
     have ih':=ihk (by omega)
     rcases eB i k with h | h
     ·exact ih' i h
     ·have e:i=k:=by omega
      subst e
      cases hb:listed.getD i false with
      | true=>rfl
      | false=>
       have hrdy:i∈lP .any ol.toArray listed:=gF.2 ⟨by rw [gT];exact hb,_,d8 (by omega),fun e he hbb=>ih' _ (hk.back i _ (d8 (by omega)) e he hbb)⟩
       rw [h0] at hrdy;cases hrdy
   exact key ol.length (aI _) i hi
  ·obtain⟨hun,o,hoi,hall⟩:=gF.1 hir
   have hil:i<ol.length:=(fF.1 hoi).1
   have hun':listed.getD i false=false:=by rw [←gT];exact hun
   have hrch:=tZ hk hcl i o hoi hall
   have hcnt:kR st (cO rl i)≤t:=PU fun u hu1 hu2 hm=>by
    have h1:=hrch _ hm
    rw [hst u hu2] at h1
    simp at h1;omega
   have hzero:t=0∨i ∉ cO rl (st.getD (t-1) 0):=by
    rcases kH t with h | h
    ·exact bE h
    ·refine bK fun hm=>?_
     have h1:=hst (t-1) (by omega)
     rw [decide_eq_true (by omega)] at h1
     have hN:=hk.inN (t-1) (by omega)
     have h2:=tZ hk hcl _ _ (d8 hN) (fun e he hb=>hcl _ _ (d8 hN) h1 e he hb) i hm
     rw [hun'] at h2;cases h2
   have hstore:i∈st→t<st.length∧st.getD t 0=i∧t=kR st (cO rl i):=by
    intro hm
    obtain⟨u,hu,heq⟩:=zV hm
    have hg:st.getD u 0=i:=by rw [bO,d8 hu];exact heq
    have h1:=hst u hu
    rw [hg,hun'] at h1
    have h2:¬u<t:=by intro h;rw [decide_eq_true h] at h1;cases h1
    have h3:u=t:=by
     rcases eB t u with h | h
     ·have h4:=hk.ord u hu t h
      rw [hg] at h4
      have h5:=hrch _ h4
      rw [hst t (by omega)] at h5
      simp at h5
     ·omega
    subst h3
    refine⟨hu,hg,?_⟩
    have h4:=LP (st:=st) (js:=cO rl i) (t:=u) (by omega) (fun v hv'=>by rw [←hg];exact hk.ord u hu v hv')
    omega
   have aA:=EK ho i t (hk.pair i o hoi t ht hcnt hzero (fun hm=>(hstore hm).2.2))
   unfold rT at aA
   rw [hoi] at aA
   simp only at aA
   have hacc:Rp n (dfr ol vs l (cO dss i)) a:=hr.dfr _ fun j hj d hd=>by
    have h1:=hrch j (hk.deps i o hoi j hj)
    have h2:=(hk.reach i o hoi j (hk.deps i o hoi j hj)).1
    exact hv j (by omega) h1 d hd
   have hwant:pG o (yielded ol.toArray a.tmps)=true:=by simp [pG,hk.guard i o hoi]
   unfold wpOp
   rw [kT,hoi]
   simp only
   rw [if_pos hwant]
   refine bE ?_
   unfold jQ
   cases hd:o.dst with
   | some d=>
    obtain⟨hnst,hdn,hfar,hoth⟩:=hk.val i o hoi d hd
    rw [if_neg (by simpa using hnst)] at aA
    rw [aA a hacc]
    simp only [jR,hd]
    refine ih _ _ t (by have:=jD hil hs hun';omega) (by simpa using hs) (hcl.set hoi hall) ht (fun u hu=>?_) (hr.put_far hfar _) (fun j hj hlj e he=>?_)
    ·rw [getD_set_ne false (fun e=>hnst (by rw [e,bO,d8 hu];exact List.getElem_mem hu))]
     exact hst u hu
    ·by_cases hij:i=j
     ·subst hij
      have e1:bN ol i=some d:=by unfold bN;rw [hoi];exact hd
      rw [e1] at he
      cases he
      exact lC hr.size hdn _
     ·rw [getD_set_ne false hij] at hlj
      have hne:e≠d:=by
       intro hed
       subst hed
       obtain⟨oj,hoj⟩:∃oj,ol[j]?=some oj:=⟨_,d8 hj⟩
       refine hoth j oj hoj (iB hij) ?_
       unfold bN at he
       rw [hoj] at he
       exact he
      have:=pV (a:=a) (d:=d) (e:=some e) (fun h=>hne (iL h)) ((vs[i]?).getD undef)
      exact this.trans (hv j hj hlj e he)
   | none=>
    have hm:=hk.sto i o hoi hd
    obtain⟨htl,hgt,_⟩:=hstore hm
    rw [if_pos (by simpa using hm)] at aA
    rw [aA a hacc]
    simp only [jR,hd]
    refine ih _ _ (t+1) (by have:=jD hil hs hun';omega) (by simpa using hs) (hcl.set hoi hall) (by omega) (fun u hu=>?_) hr (fun j hj hlj e he=>?_)
    ·by_cases hut:u=t
     ·subst hut
      rw [hgt]
      simp [hs,hil]
     ·have hne:i≠st.getD u 0:=by
       intro e
       rcases eB u t with h | h
       ·have h1:=hst u hu
        rw [←e,hun',decide_eq_true h] at h1;cases h1
       ·have h4:=hk.ord u hu t (by omega)
        rw [hgt,←e] at h4
        have:=(hk.reach i o hoi i h4).1
        omega
      rw [getD_set_ne false hne,hst u hu]
      congr 1
      simp only [eq_iff_iff]
      omega
    ·by_cases hij:i=j
     ·subst hij
      have e1:bN ol i=none:=by unfold bN;rw [hoi];exact hd
      rw [e1] at he;cases he
     ·rw [getD_set_ne false hij] at hlj
      exact hv j hj hlj e he
theorem lK (hmix:P.follows .mixedOrders=true)(vs:List aF)(ws:List a0)(st:List Nat)(dss rl:List (List Nat))(ps:List (Nat×Nat))(hk:tX n ol st l dss rl ps=true)(hw:wv ws w 0=w0.drew)(ho:lO P n ol vs ws w dss l st ps)(hfin:eo Q .normal n (FK ol vs l) (wv ws w st.length)):cw P Q n (.region id ol.toArray true) l w0:=fun a J=>by
 refine wp_region_any hmix ?_
 have I:(kY ol.toArray.size false).size=ol.length:=by simp
 have H:∀i,(kY ol.toArray.size false).getD i false=false:=by
  intro i
  simp only [kZ,vH]
  split <;> rfl
 have:=PM (EP hk) ho hfin ol.toArray.size _ a 0 (by
  refine a7 uZ ?_
  simp) I (fun i o _ h=>by rw [H] at h;cases h) (bX _) (fun u _=>by rw [H];simp) J (fun i _ h=>by rw [H] at h;cases h)
 rw [hw] at this
 exact this
theorem aW {t:Nat}(acc:Fr)(ho:ol[i]?=some o)(hs:st.contains i=false)(hv:(vs[i]?).getD undef=v)(hw:wv ws w t=wt)(hacc:dfr ol vs l (cO dss i)=acc)(h:gW P n acc o wt (.value v) wt)(h':lO P n ol vs ws w dss l st ps):lO P n ol vs ws w dss l st ((i,t)::ps):=⟨by unfold rT;rw [ho];simp only;rw [hs,if_neg (by simp),hv,hw,hacc];exact h,h'⟩
theorem gU {t:Nat}{wt':a0}(acc:Fr)(ho:ol[i]?=some o)(hs:st.contains i=true)(hw:wv ws w t=wt)(hw':wv ws w (t+1)=wt')(hacc:dfr ol vs l (cO dss i)=acc)(h:gW P n acc o wt .skip wt')(h':lO P n ol vs ws w dss l st ps):lO P n ol vs ws w dss l st ((i,t)::ps):=⟨by unfold rT;rw [ho];simp only;rw [hs,if_pos rfl,hw,hw',hacc];exact h,h'⟩
theorem lJ:lO P n ol vs ws w dss l st []:=trivial
end
def dR (n:Nat):Nat:=if n=0 then 0 else Nat.log2 n+1
theorem yW:dR 0=0:=rfl
theorem tK (n:Nat):n<2^dR n:=by
 unfold dR
 split
 ·omega
 ·exact Nat.lt_log2_self
theorem yX (h:n≠0):2^(dR n-1)≤n:=by
 unfold dR
 rw [if_neg h,zR]
 exact Nat.log2_self_le h
theorem rD:dR n=0↔n=0:=by
 unfold dR;split <;> simp_all
theorem yY (h:n<2^k):dR n≤k:=by
 by_cases o:n=0
 ·subst o;rw [yW];omega
 ·have H:=yX o
  have I:2^(dR n-1)<2^k:=o7 H h
  have:=(G3 (by omega:1<2)).1 I
  have J:dR n≠0:=fun e=>o (rD.1 e)
  omega
theorem FG (h1:n<2^k)(h2:k=0∨2^(k-1)≤n):dR n=k:=by
 have I:=yY h1
 rcases h2 with h | h
 ·omega
 ·by_cases H:k=0
  ·omega
  ·have o:2^(k-1)<2^dR n:=o7 h (tK n)
   have:=(G3 (by omega:1<2)).1 o
   omega
theorem FI (x:Nat)(h:x<18446744073709551616):Lib.bitLen x=dR x:=by
 by_cases o:x=0
 ·subst o;simp [Lib.bitLen,Lib.bitLenAux_zero,yW]
 ·obtain⟨a,b,c⟩:=Lib.bitLenAux_bounds 64 x h o
  exact (FG c (bK b)).symm
theorem nX:WB=2^64:=by decide
theorem F9 (x y c:Nat)(hc:c≤1)(w:a0):(callFunc 98 #[AT (x:Int),AT (y:Int),AT (c:Int)]).run aJ w=
   .ok (.value (.tuple #[AT (((x+y+c)%18446744073709551616:Nat):Int),AT (((x+y+c)/18446744073709551616:Nat):Int)])) w:=by
 rw [run_callFunc_extern Tryz.func98 (by kernel_rfl) (by kernel_rfl) (by kernel_rfl) (e:=add64Entry) (by kernel_rfl),run_add64 x y c (by omega) (by omega) (by omega) (by omega)]
 simp only [Result.andThen]
 congr 5 <;> omega
theorem uF (hc:c≤1)(hx:x≤18446744073709551615)(hy:y≤18446744073709551615):∃s d:Nat,Hid (s+WB*d=x+y+c)∧s≤18446744073709551615∧d≤1∧
  ∀w,(callFunc 98 #[AT (x:Int),AT (y:Int),AT (c:Int)]).run aJ w= .ok (.value (.tuple #[AT (s:Int),AT (d:Int)])) w:=
 ⟨(x+y+c)%18446744073709551616,(x+y+c)/18446744073709551616,(show _=_ by rw [cQ];exact mV _ _),by omega,by omega,fun w=>F9 x y c hc w⟩
theorem rJ (hx:x≤18446744073709551615)(hy:y≤18446744073709551615):∃s d:Nat,Hid (s+WB*d=x+y)∧s≤18446744073709551615∧d≤1∧
  ∀w,(callFunc 98 #[AT (x:Int),AT (y:Int),AT 0]).run aJ w= .ok (.value (.tuple #[AT (s:Int),AT (d:Int)])) w:=
 uF (c:=0) (by omega) hx hy
theorem QT (hx:x≤18446744073709551615):∃s d:Nat,Hid (s+WB*d=x+1)∧s≤18446744073709551615∧d≤1∧
  ∀w,(callFunc 98 #[AT (x:Int),AT 0,AT 1]).run aJ w= .ok (.value (.tuple #[AT (s:Int),AT (d:Int)])) w:=
 uF (y:=0) (c:=1) (by omega) hx (by omega)
theorem AL {Q:cE→Act→a0→Prop}(hgd:o.guard=none)(x y c:cA)(ho:o.op= .call {callee:= .value (.func 98),args:= #[x,y,c],argTypes:=ts})(X Y C:Nat)(hx:a.eval x= AT (X:Int))(hy:a.eval y= AT (Y:Int))(hz:a.eval c= AT (C:Int))(hC:C≤1)(hX:X≤18446744073709551615)(hY:Y≤18446744073709551615)(h:∀s d:Nat,Hid (s+WB*d=X+Y+C)→s≤18446744073709551615→d≤1→wpList aJ ops Q rest (a.put o.dst (.tuple #[AT (s:Int),AT (d:Int)])) w):wpList aJ ops Q (o::rest) a w:=by
 refine wpList_plain hgd fun K I=>?_
 have H:=F9 X Y C hC w
 unfold jQ
 have hf:a.eval (.func 98)= .func (.func 98) #[] #[]:=rfl
 simp [execOp,ho,resolve,invoke,hf,hx,hy,hz,H,vF,jR]
 have:=I _ _ (h ((X+Y+C)%18446744073709551616) ((X+Y+C)/18446744073709551616) (show _=_ by rw [cQ];exact mV _ _) (by omega) (by omega))
 simpa using this
theorem F8 (x y b:Nat)(hb:b≤1)(w:a0):(callFunc 116 #[AT (x:Int),AT (y:Int),AT (b:Int)]).run aJ w=
   .ok (.value (.tuple #[AT (((x+18446744073709551616-y-b)%18446744073709551616:Nat):Int),AT ((if x<y+b then 1 else 0:Nat):Int)])) w:=by
 rw [run_callFunc_extern Tryz.func116 (by kernel_rfl) (by kernel_rfl) (by kernel_rfl) (e:=sub64Entry) (by kernel_rfl),run_sub64 x y b hb]
 rfl
theorem sQ (hc:c≤1)(hx:x≤18446744073709551615)(hy:y≤18446744073709551615):∃s d:Nat,Hid (s+y+c=x+WB*d)∧s≤18446744073709551615∧d≤1∧
  ∀w,(callFunc 116 #[AT (x:Int),AT (y:Int),AT (c:Int)]).run aJ w= .ok (.value (.tuple #[AT (s:Int),AT (d:Int)])) w:=by
 have h:=fun w=>F8 x y c hc w
 have H:(x+18446744073709551616-y-c)%18446744073709551616+y+c=x+WB*(if x<y+c then 1 else 0):=by rw [cQ];split <;> omega
 have o:(x+18446744073709551616-y-c)%18446744073709551616≤18446744073709551615:=by omega
 have I:(if x<y+c then 1 else 0)≤1:=by split <;> omega
 exact⟨_,_,H,o,I,h⟩
theorem IB (hx:x≤18446744073709551615):∃s d:Nat,Hid (s+0+1=x+WB*d)∧s≤18446744073709551615∧d≤1∧
  ∀w,(callFunc 116 #[AT (x:Int),AT 0,AT 1]).run aJ w= .ok (.value (.tuple #[AT (s:Int),AT (d:Int)])) w:=
 sQ (y:=0) (c:=1) (by omega) hx (by omega)
theorem AH {Q:cE→Act→a0→Prop}(hgd:o.guard=none)(x y c:cA)(ho:o.op= .call {callee:= .value (.func 116),args:= #[x,y,c],argTypes:=ts})(X Y C:Nat)(hx:a.eval x= AT (X:Int))(hy:a.eval y= AT (Y:Int))(hz:a.eval c= AT (C:Int))(hC:C≤1)(hX:X≤18446744073709551615)(hY:Y≤18446744073709551615)(h:∀s d:Nat,Hid (s+Y+C=X+WB*d)→s≤18446744073709551615→d≤1→wpList aJ ops Q rest (a.put o.dst (.tuple #[AT (s:Int),AT (d:Int)])) w):wpList aJ ops Q (o::rest) a w:=by
 refine wpList_plain hgd fun K I=>?_
 have H:=F8 X Y C hC w
 have J:(X+18446744073709551616-Y-C)%18446744073709551616+Y+C=X+WB*(if X<Y+C then 1 else 0):=by rw [cQ];split <;> omega
 have e2:(X+18446744073709551616-Y-C)%18446744073709551616≤18446744073709551615:=by omega
 have U:(if X<Y+C then 1 else 0)≤1:=by split <;> omega
 generalize (X+18446744073709551616-Y-C)%18446744073709551616=s at*
 generalize (if X<Y+C then 1 else 0)=d at*
 unfold jQ
 have hf:a.eval (.func 116)= .func (.func 116) #[] #[]:=rfl
 simp only [execOp,ho,resolve,invoke,hf,vF,List.map_toArray,List.map_cons,List.map_nil,hx,hy,hz,c8,fO,eD,Array.empty_append,Array.append_empty,H,jR]
 exact I _ _ (h s d J e2 U)
theorem bits_Mul64 (x y:Nat)(hx:x≤18446744073709551615)(hy:y≤18446744073709551615)(w:a0):aR aJ 97 #[AT (x:Int),AT (y:Int)] w fun e w'=>∃hi lo:Nat,Hid (lo+WB*hi=x*y)∧hi≤18446744073709551615∧lo≤18446744073709551615∧
   e= .returned (.tuple #[AT (hi:Int),AT (lo:Int)])∧w=w':=by
 refine (Tryz.bits_Mul64 x y (by omega) (by omega) w).mono ?_
 rintro e w' ⟨rfl,rfl⟩
 refine⟨x*y/18446744073709551616,x*y%18446744073709551616,show _=_ by rw [cQ];exact mV _ _,?_,by omega,rfl,rfl⟩
 have h:x*y≤18446744073709551615*18446744073709551615:=fV hx hy
 omega
theorem bits_Len64 (x:Nat)(hx:x≤18446744073709551615)(w:a0):aR aJ 70 #[AT (x:Int)] w fun e w'=>∃n:Nat,Hid (n=dR x)∧n≤64∧e= .returned (AI (n:Int))∧w=w':=by
 refine (Tryz.bits_Len64 x w (by omega) (by omega)).mono ?_
 rintro e w' ⟨rfl,rfl⟩
 refine⟨dR x,rfl,yY (by omega),?_,rfl⟩
 rw [jV,FI x (by omega)]
theorem bits_LeadingZeros64 (x:Nat)(hx:x≤18446744073709551615)(w:a0):aR aJ 110 #[AT (x:Int)] w fun e w'=>∃n:Nat,Hid (n+dR x=64)∧n≤64∧e= .returned (AI (n:Int))∧w=w':=by
 refine (Tryz.bits_LeadingZeros64 x w (by omega) (by omega)).mono ?_
 rintro e w' ⟨rfl,rfl⟩
 have h:dR x≤64:=yY (by omega)
 refine⟨64-dR x,show _=_ by omega,by omega,?_,rfl⟩
 rw [jV,FI x (by omega)]
 congr 2;omega
def xP:kJ→Bool
 | .eql=>true
 | .neq=>true
 | _=>false
theorem AK {Q:cE→Act→a0→Prop}(hgd:o.guard=none){t:aO}{x y:cA}(ho:o.op= .binOp op t x y ty)(hx:a.eval x=vx)(hy:a.eval y=vy)(hne:xP op=false)(hr:∀w,(binOp op t vx vy).run P w= .ok v w)(h:wpList P ops Q rest (a.put o.dst v) w):wpList P ops Q (o::rest) a w:=by
 refine wpList_plain hgd fun K H=>?_
 unfold jQ
 have hg:(eqGuard op t x y vx vy).run P w= .ok () w:=by
  unfold eqGuard
  cases op <;> first | rfl | exact absurd hne (by decide)
 simp only [execOp,ho,hx,hy,c8,hg,eD,hr,fO,jR]
 exact H _ _ h
theorem dE {Q:cE→Act→a0→Prop}(hgd:o.guard=none){t:aO}{x y:cA}(ho:o.op= .binOp op t x y ty){f:Nat}(hx:a.eval x=vx)(hy:a.eval y=vy)(hne:xP op=false)(hr:∀(P:bP) (t:aO) (w:a0),(binOp op t vx vy).run P w= .ok (AT (f:Int)) w)(h:∀r:Nat,Hid (r=f)→r≤18446744073709551615→wpList P ops Q rest (a.put o.dst (AT (r:Int))) w)(hf:f≤18446744073709551615:=by omega):wpList P ops Q (o::rest) a w:=
 AK hgd ho hx hy hne (fun w=>hr P t w) (h f G hf)
theorem lZ (n:Nat):IntKind.u64.wrap (n:Int)=((n%18446744073709551616:Nat):Int):=by
 simp [sG,pP,pO]
theorem nD (hs:s≤64)(P:bP)(t:aO)(w:a0):(binOp .shl t (AT (x:Int)) (AT (s:Int))).run P w= .ok (AT ((x*2^s%18446744073709551616:Nat):Int)) w:=by
 have e:((x:Int)*2^min (s:Int).toNat IntKind.u64.bits)=((x*2^s:Nat):Int):=by
  rw [jV,show min s IntKind.u64.bits=s from iD hs];simp
 simp only [binOp]
 rw [shift_shl_any _ _ _ _ (by omega),e,lZ];rfl
theorem m7 (hs:s≤64)(P:bP)(t:aO)(w:a0):(binOp .shr t (AT (x:Int)) (AT (s:Int))).run P w= .ok (AT ((x/2^s:Nat):Int)) w:=by
 have e:((x:Int)/2^min (s:Int).toNat IntKind.u64.bits)=((x/2^s:Nat):Int):=by
  rw [jV,show min s IntKind.u64.bits=s from iD hs];simp
 simp only [binOp]
 rw [shift_shr_any _ _ _ _ (by omega),e];rfl
theorem oF (P:bP)(t:aO)(w:a0):(binOp .mul t (AT (x:Int)) (AT (y:Int))).run P w= .ok (AT ((x*y%18446744073709551616:Nat):Int)) w:=by
 rw [←lZ,jA];rfl
theorem vV (P:bP)(t:aO)(w:a0):(binOp .add t (AT (x:Int)) (AT (y:Int))).run P w= .ok (AT (((x+y)%18446744073709551616:Nat):Int)) w:=by
 rw [←lZ,Int.natCast_add];rfl
theorem nC (hy:y≤18446744073709551616)(P:bP)(t:aO)(w:a0):(binOp .sub t (AT (x:Int)) (AT (y:Int))).run P w= .ok (AT (((x+(18446744073709551616-y))%18446744073709551616:Nat):Int)) w:=by
 have e:IntKind.u64.wrap ((x:Int)-(y:Int))=(((x+(18446744073709551616-y))%18446744073709551616:Nat):Int):=by
  simp only [sG,pP,pO]
  simp
  omega
 rw [←e];rfl
theorem B2 (hy:y≠0)(hx:x≤18446744073709551615)(P:bP)(t:aO)(w:a0):(binOp .quo t (AT (x:Int)) (AT (y:Int))).run P w= .ok (AT ((x/y:Nat):Int)) w:=by
 have h:=iM x y
 have e:IntKind.u64.wrap ((x:Int).tdiv (y:Int))=((x/y:Nat):Int):=by
  have:(x:Int).tdiv (y:Int)=((x/y:Nat):Int):=by rw [vB (by omega)];simp
  rw [this,lZ,gP (by omega)]
 simp only [binOp,rX]
 simp [hy]
 rw [show (↑x/ ↑y:Int)=((x/y:Nat):Int) from by simp] at*
 simpa [vB] using e
theorem oL (hx:x≤18446744073709551615):(oC 64 (x:Int)).toNat=x:=ofInt_u64 x (by omega)
theorem pT (hx:x≤18446744073709551615)(hy:y≤18446744073709551615)(P:bP)(t:aO)(w:a0):(binOp .or t (AT (x:Int)) (AT (y:Int))).run P w= .ok (AT ((x||| y:Nat):Int)) w:=by
 have e:IntKind.u64.wrap ((oC 64 (x:Int)||| oC 64 (y:Int)).toNat:Int)=((x||| y:Nat):Int):=by
  rw [BitVec.toNat_or,oL hx,oL hy,lZ,gP (mU (n:=64) (by omega) (by omega))]
 rw [←e];rfl
theorem B3 (hx:x≤18446744073709551615)(hy:y≤18446744073709551615)(P:bP)(t:aO)(w:a0):(binOp .and t (AT (x:Int)) (AT (y:Int))).run P w= .ok (AT ((x&&& y:Nat):Int)) w:=by
 have e:IntKind.u64.wrap ((oC 64 (x:Int)&&& oC 64 (y:Int)).toNat:Int)=((x&&& y:Nat):Int):=by
  rw [BitVec.toNat_and,oL hx,oL hy,lZ,gP (Nat.and_lt_two_pow (n:=64) _ (by omega))]
 rw [←e];rfl
theorem wR (hy:y<2^k):(x*2^k)||| y=x*2^k+y:=nat_join k _ _ (by simp) hy
structure Guess (B yn1 yn0 u un q r:Nat):Prop where
 eq:q*yn1+r=u
 top:u*B+un<(q+1)*(yn1*B+yn0)
 qb:q≤B+1
theorem Guess.start {B:Nat}(_hB:0<B)(h1:B≤2*yn1)(hun:un<B)(hu:u<yn1*B+yn0)(h0:yn0<B):Guess B yn1 yn0 u un (u/yn1) (u%yn1):=by
 have h:0<yn1:=by omega
 refine⟨by rw [cY];exact lS u yn1,?_,?_⟩
 ·have o:u<(u/yn1+1)*yn1:=by
   rw [cY];exact s7 u h
  have H:u*B+B≤((u/yn1+1)*yn1)*B:=by
   have:=dX B (o5 o)
   rwa [gO] at this
  rw [dC,←cW]
  omega
 ·have o:u<(B+2)*yn1:=by
   rw [dS,cY B]
   omega
  have:=(G4 h).2 o
  omega
theorem Guess.pos {B:Nat}(hB:0<B)(ht:B≤q∨B*r+un<q*yn0):0<q:=by
 rcases ht with h | h
 ·omega
 ·rcases kH q with e | e
  ·subst e;simp at h
  ·exact e
theorem Guess.step {B:Nat}(h:Guess B yn1 yn0 u un q r)(hun:un<B)(hu:u<yn1*B+yn0)(ht:B≤q∨B*r+un<q*yn0)(hq:0<q):Guess B yn1 yn0 u un (q-1) (r+yn1):=by
 obtain⟨e,ht',qb⟩:=h
 refine⟨?_,?_,by omega⟩
 ·have:q*yn1=(q-1)*yn1+yn1:=by
   conv=>lhs;rw [show q=(q-1)+1 from by omega]
   rw [gO]
  omega
 ·rw [jS hq,dC,←cW]
  rcases ht with h | h
  ·have o:B*(yn1*B+yn0)≤q*(yn1*B+yn0):=dX _ h
   have H:B*(u+1)≤B*(yn1*B+yn0):=j6 _ hu
   rw [dC,←cW] at o
   rw [uQ,cY B u] at H
   have J:q*(yn1*B+yn0)=q*yn1*B+q*yn0:=by rw [dC,cW]
   have I:B*(yn1*B+yn0)=B*yn1*B+B*yn0:=by rw [dC,cW]
   omega
  ·have o:(q*yn1+r)*B=u*B:=by rw [e]
   rw [dS,cY r B] at o
   omega
theorem Guess.done {B:Nat}(h:Guess B yn1 yn0 u un q r)(h0:yn0<B)(hd:(q<B∧q*yn0≤B*r+un)∨(q≤B∧B≤r)):q=(u*B+un)/(yn1*B+yn0)∧q*(yn1*B+yn0)≤u*B+un:=by
 obtain⟨e,I,_⟩:=h
 have key:q*yn0≤B*r+un:=by
  rcases hd with⟨_,h⟩ | ⟨H,U⟩
  ·exact h
  ·have h3:q*yn0≤B*B:=fV H (by omega)
   have h4:B*B≤B*r:=j6 _ U
   omega
 have o:q*(yn1*B+yn0)≤u*B+un:=by
  have H:(q*yn1+r)*B=u*B:=by rw [e]
  rw [dS,cY r B] at H
  rw [dC,←cW]
  omega
 refine⟨?_,o⟩
 have J:0<yn1*B+yn0:=by
  rcases kH (yn1*B+yn0) with h | h
  ·rw [h] at I;simp at I
  ·exact h
 exact (Nat.div_eq_of_lt_le (by rw [cY] at o;rwa [cY]) I).symm
theorem AF {a r1 r2 r3 r4:Nat}(h1:r1=a%18446744073709551616)(h2:r2=(r1+b)%18446744073709551616)(h3:r3=c%18446744073709551616)(h4:r4=(r2+(18446744073709551616-r3))%18446744073709551616)(h:a+b=c+d)(hd:d≤18446744073709551615):r4=d:=by
 omega
theorem CS (hy:y≠0)(hs:s+dR y=64):y*2^s<18446744073709551616∧9223372036854775808≤y*2^s:=by
 have I:=tK y
 have J:=yX hy
 have hb:dR y≠0:=fun h=>hy (rD.1 h)
 have o:y*2^s<2^dR y*2^s:=pJ I (kV s)
 have H:2^(dR y-1)*2^s≤y*2^s:=dX _ J
 rw [←eK,show dR y+s=64 from by omega] at o
 rw [←eK,show dR y-1+s=63 from by omega] at H
 exact⟨o,H⟩
theorem yI (hs:s+dR y=64)(hyy:yy=y*2^s%18446744073709551616)(h1:yn1=yy/2^32)(hy:y≠0:=by omega):yy=y*2^s∧2147483648≤yn1:=by
 obtain⟨a,b⟩:=CS hy hs
 rw [gP a] at hyy
 refine⟨hyy,?_⟩
 rw [h1,hyy];omega
theorem QR (x:Nat):x&&& 4294967295=x%4294967296:=Nat.and_two_pow_sub_one_eq_mod x 32
theorem IV {lo:Nat}(hs:s≤64):lo*2^s=lo/2^(64-s)*18446744073709551616+lo*2^s%18446744073709551616:=by
 have e:lo*2^s/18446744073709551616=lo/2^(64-s):=by
  have h:(18446744073709551616:Nat)=2^(64-s)*2^s:=by rw [←eK,show 64-s+s=64 from by omega]
  conv=>lhs;rw [h]
  exact zQ _ _ (kV s)
 rw [←e,cY (lo*2^s/18446744073709551616)]
 exact (lS _ _).symm
theorem PH {lo r46 r49 r50:Nat}(hlt:hi<y)(hlo:lo≤18446744073709551615)(hs:s+dR y=64)(hs64:s≤64)(hyy:yy=y*2^s%18446744073709551616)(h1:yn1=yy/2^32)(h0:yn0=yy&&& 4294967295)(h46:r46=hi*2^s%18446744073709551616)(h49:r49=(64+(18446744073709551616-s))%18446744073709551616)(h50:r50=lo/2^r49)(hu:u=r46||| r50)(h10:un10=lo*2^s%18446744073709551616)(hu1:un1=un10/2^32)(hu0:un0=un10&&& 4294967295):yy=y*2^s∧yy=yn1*4294967296+yn0∧yn0<4294967296∧yn1<4294967296∧u<yy∧un1<4294967296∧un0<4294967296∧un10=un1*4294967296+un0∧(hi*WB+lo)*2^s=u*18446744073709551616+un10:=by
 obtain⟨U,_⟩:=yI hs hyy h1
 have ab:=(CS (y:=y) (by omega) hs).1
 have I:r49=64-s:=by omega
 have ac:hi*2^s<y*2^s:=pJ hlt (kV s)
 have J:r46=hi*2^s:=by rw [h46,gP (by omega)]
 have H:=IV (lo:=lo) hs64
 rw [I] at h50
 have h:r50<2^s:=by
  rw [h50]
  refine s8 ?_
  rw [←eK,show 64-s+s=64 from by omega]
  omega
 have eu:u=hi*2^s+r50:=by rw [hu,J,wR h]
 rw [QR] at h0 hu0
 have eU:(hi*WB+lo)*2^s=u*18446744073709551616+un10:=by
  rw [dS,cQ,H,eu,←h50,←h10,dS,rY]
  omega
 have o:u<yy:=by
  have h2:(hi+1)*2^s≤y*2^s:=dX _ hlt
  rw [gO] at h2
  omega
 refine⟨U,by omega,by omega,by omega,o,by omega,by omega,by omega,eU⟩
theorem PJ {lo q1 v q0:Nat}(hy:0<y)(e1:yy=y*2^s)(e10:un10=un1*4294967296+un0)(eU:(hi*WB+lo)*2^s=u*18446744073709551616+un10)(hq1:u*4294967296+un1=q1*yy+v)(hq0:v*4294967296+un0=q0*yy+r)(hr:r<yy):(hi*WB+lo)/y=q1*4294967296+q0∧(hi*WB+lo)%y=r/2^s:=by
 have o:=kV s
 have I:(hi*WB+lo)*2^s=(q1*4294967296+q0)*yy+r:=by
  have J:(q1*4294967296+q0)*yy=(q1*yy)*4294967296+q0*yy:=by rw [dS,rY]
  have U:u*18446744073709551616+un1*4294967296=(u*4294967296+un1)*4294967296:=by rw [dS,cW]
  rw [eU,e10,J,←jU,U,hq1,dS,jU,hq0,jU]
 have H:0<yy:=by rw [e1];exact pI hy o
 constructor
 ·rw [←zQ _ _ o,←e1,I,cY _ yy,lR H,gZ hr,eA]
 ·have h:=uR (2^s) (hi*WB+lo) y
  rw [←e1,I,cY _ yy,rZ,gP hr] at h
  rw [h,Nat.mul_div_cancel _ o]
def zN (hi lo y:Nat)(w:a0)(e:dI)(w':a0):Prop:=
 ∃q r:Nat,Hid (q=(hi*WB+lo)/y)∧Hid (r=(hi*WB+lo)%y)∧q≤18446744073709551615∧r<y∧e= .returned (.tuple #[AT (q:Int),AT (r:Int)])∧∃m,w'=w.drewN m
theorem PF {lo:Nat}(hlo:lo≤18446744073709551615)(hy:1≤y)(hyb:y≤18446744073709551615)(w:a0):aR aJ 109 #[AT 0,AT (lo:Int),AT (y:Int)] w (zN 0 lo y w):=by
 have h1:((y:Int)==0)=false:=by simp;omega
 have h2:¬(y:Int)≤0:=by omega
 have h3:(lo:Int)/(y:Int)≤(lo:Int):=Int.ediv_le_self _ (by omega)
 have h4:0≤(lo:Int)/(y:Int):=Int.ediv_nonneg (by omega) (by omega)
 have h5:=Int.emod_nonneg (lo:Int) (b:=(y:Int)) (by omega)
 have h6:=Int.emod_lt_of_pos (lo:Int) (b:=(y:Int)) (by omega)
 go_enter Tryz.func109,Tryz.ntmps109
 go_wp2_with fail
 go_quiet (fail)
 go_wp2_with fail
 go_ret2
 refine⟨lo/y,lo%y,by simp [Hid],by simp [Hid],?_,j7 _ hy,by simp,_,rfl⟩
 have:=iM lo y
 omega
theorem Guess.fin (e:yy=yn1*4294967296+yn0)(h0:yn0<4294967296)(hyy:0<yy)(hu:u<yy)(hun:un<4294967296)(hG:Guess 4294967296 yn1 yn0 u un q r)(hd:(q<4294967296∧q*yn0≤4294967296*r+un)∨(q≤4294967296∧4294967296≤r)):q≤4294967295∧∃v,Hid (u*4294967296+un=q*yy+v)∧v<yy:=by
 obtain⟨a,b⟩:=hG.done h0 hd
 rw [←e] at a b
 refine⟨?_,u*4294967296+un-q*yy,?_,?_⟩
 ·have:q<4294967296:=by
   rw [a]
   refine s8 ?_
   have:=dX 4294967296 (o5 hu)
   rw [gO] at this
   omega
  omega
 ·show _=_
  omega
 ·have:=s7 (u*4294967296+un) hyy
  rw [←a,dC,gY,cY yy q] at this
  omega
theorem C6 {r65 rh:Nat}(hy:0<y)(hu:u≤18446744073709551615)(e1:q=u/y)(e2:r65=q*y%18446744073709551616)(e3:rh=(u+(18446744073709551616-r65))%18446744073709551616):rh=u%y:=by
 have o:=lS u y
 rw [e1,cY] at e2
 have h:=j7 u hy
 generalize y*(u/y)=a at*
 generalize u%y=b at*
 omega
theorem PG {lo:Nat}(hhi:1≤hi)(hlt:hi<y)(hlo:lo≤18446744073709551615)(hyb:y≤18446744073709551615)(w:a0):aR aJ 109 #[AT (hi:Int),AT (lo:Int),AT (y:Int)] w (zN hi lo y w):=by
 have h1:((y:Int)==0)=false:=by simp;omega
 have h2:¬(y:Int)≤(hi:Int):=by omega
 have h3:((hi:Int)==0)=false:=by simp;omega
 go_enter Tryz.func109,Tryz.ntmps109
 go_wp2_with fail
 refine (bits_LeadingZeros64 y hyb _).mono ?_
 rintro e w' ⟨s,hs,hs64,rfl,rfl⟩
 go_upto_block 0 with (first
  | ((with_reducible refine cU (some 39) ?_);refine dE rfl rfl rfl rfl rfl (nD hs64) ?_;intro yy hyy hyyb)
  | ((with_reducible refine cU (some 41) ?_);refine dE rfl rfl rfl rfl rfl (m7 (s:=32) (by omega)) ?_;intro yn1 hyn1 hyn1b)
  | ((with_reducible refine cU (some 43) ?_);refine dE rfl rfl rfl rfl rfl (B3 (y:=4294967295) hyyb (by omega)) ?_ (hf:=(by have:=Nat.and_le_left (n:=yy) (m:=4294967295);omega));intro yn0 hyn0 hyn0b)
  | ((with_reducible refine cU (some 46) ?_);refine dE rfl rfl rfl rfl rfl (nD hs64) ?_;intro r46 h46 hb46)
  | ((with_reducible refine cU (some 49) ?_);refine dE rfl rfl rfl rfl rfl (nC (x:=64) (y:=s) (by omega)) ?_;intro r49 h49 hb49)
  | ((with_reducible refine cU (some 50) ?_);refine dE rfl rfl rfl rfl rfl (m7 (s:=r49) (by rw [h49.out];omega)) ?_ (hf:=(by have:=iM lo (2^r49);omega));intro r50 h50 hb50)
  | ((with_reducible refine cU (some 51) ?_);refine dE rfl rfl rfl rfl rfl (pT hb46 hb50) ?_ (hf:=(by have:=mU (n:=64) (x:=r46) (y:=r50) (by omega) (by omega);omega));intro u hu hub)
  | ((with_reducible refine cU (some 54) ?_);refine dE rfl rfl rfl rfl rfl (nD hs64) ?_;intro un10 h10 hb10)
  | ((with_reducible refine cU (some 56) ?_);refine dE rfl rfl rfl rfl rfl (m7 (s:=32) (by omega)) ?_;intro un1 hun1 hun1b)
  | ((with_reducible refine cU (some 58) ?_);refine dE rfl rfl rfl rfl rfl (B3 (y:=4294967295) hb10 (by omega)) ?_ (hf:=(by have:=Nat.and_le_left (n:=un10) (m:=4294967295);omega));intro un0 hun0 hun0b)
  | ((with_reducible refine cU (some 61) ?_);refine dE rfl rfl rfl rfl rfl (B2 (by have:=(yI hs.out hyy.out hyn1.out).2;omega) hub) ?_ (hf:=(by have:=iM u yn1;omega));intro q1 hq1 hq1b)
  | ((with_reducible refine cU (some 65) ?_);refine dE rfl rfl rfl rfl rfl oF ?_;intro r65 h65 hb65)
  | ((with_reducible refine cU (some 66) ?_);refine dE rfl rfl rfl rfl rfl (nC (by omega)) ?_;intro rh hrh hrhb))
 have hN:=PH hlt hlo hs.out hs64 hyy.out hyn1.out hyn0.out h46.out h49.out h50.out hu.out h10.out hun1.out hun0.out
 have hyn1lo:=(yI hs.out hyy.out hyn1.out).2
 obtain⟨n1,n2,n3,n4,n5,n6,n7,n8,n9⟩:=hN
 have N1:=aU n1
 have N2:=aU n2
 have N3:=aU n3
 have N5:=aU n5
 have N6:=aU n6
 have NL:=aU hyn1lo
 have hyylo:0<yy:=by omega
 have hyn1hi:(yn1:Int)≤4294967295:=by omega
 have hyn1pos:0<yn1:=by omega
 have hun1hi:(un1:Int)≤4294967295:=by omega
 have hyn0hi:(yn0:Int)≤4294967295:=by omega
 have hun0hi:(un0:Int)≤4294967295:=by omega
 have N8:=aU n8
 have N9:=aU n9
 have hq1':Hid (q1=u/yn1):=hq1
 have hrh':Hid (rh=u%yn1):=C6 (by omega) hub hq1.out h65.out hrh.out
 clear n1 n2 n3 n4 n5 n6 n7 n8 n9 hyn1lo hyy hyn1 hyn0 h46 h49 h50 hu h10 hun1 hun0 h65 hrh hq1
 clear hb46 hb49 hb50 hb65 hrhb hq1b h1 h2 h3
 go_cut [15,16] (fun a b wc=>∃q r v:Nat,a= AT (q:Int)∧b= AT (r:Int)∧q≤4294967295∧Hid (u*4294967296+un1=q*yy+v)∧v<yy∧w=wc)
 case first=>
  have HG0:=aU (Guess.start (B:=4294967296) (yn1:=yn1) (yn0:=yn0) (u:=u) (un:=un1) (by omega) (by have:=NL.out;omega) N6.out (by rw [←N2.out];exact N5.out) N3.out)
  refine wp_block ?_
  go_wp2_with fail
  go_loop [15,16] (fun a b=>∃q r:Nat,a= AT (q:Int)∧b= AT (r:Int)∧q≤4294967297∧r≤4294967295∧Hid (Guess 4294967296 yn1 yn0 u un1 q r)) (fun a b=>(intOf a).toNat)
  case atStart=>exact⟨q1,rh,rfl,rfl,by have:=HG0.out.qb;rw [hq1'.out];omega,by rw [hrh'.out];have:=j7 u (show 0<yn1 by omega);omega,by rw [hq1'.out,hrh'.out];exact HG0⟩
  case round=>
   obtain⟨q,r,rfl,rfl,hq,hr,hG⟩:=hrel
   by_cases hqB:(4294967296:Int)≤(q:Int)
   ·have HS:=aU (hG.out.step N6.out (by rw [←N2.out];exact N5.out) (bE (by omega)) (by omega))
    have HQ:=aU hq
    by_cases hrB:(4294967296:Int)≤(r:Int)+(yn1:Int)
    ·go_upto_region 20 with (fail)
     have HQB:=aU hqB
     clear hqB
     go_wp2_with fail
     go_meet
     case rel=>
      obtain⟨a,v,b,c⟩:=Guess.fin N2.out N3.out hyylo N5.out N6.out HS.out (bK ⟨by have:=HQB.out;omega,by omega⟩)
      exact⟨q-1,r+yn1,v,fG (h:=(by have:=HQB.out;omega)),fG,a,b,c,rfl⟩
    ·go_upto_region 20 with (fail)
     have HQB:=aU hqB
     clear hqB
     go_wp2_with fail
     go_round
     case rel=>exact⟨q-1,r+yn1,fG (h:=(by have:=HQB.out;omega)),fG,by omega,by omega,HS⟩
     case measure=>have:=HQB.out;simp [intOf];omega
   ·have hp1:(q:Int)*(yn0:Int)≤18446744065119617025:=by
     have h:q*yn0≤4294967295*4294967295:=fV (by omega) (by omega)
     rw [←jA];omega
    have hp0:0≤(q:Int)*(yn0:Int):=Int.mul_nonneg (by omega) (by omega)
    by_cases hT:4294967296*r+un1<q*yn0
    ·have hTi:4294967296*(r:Int)+(un1:Int)<(q:Int)*(yn0:Int):=by rw [←jA];omega
     have hqp:=Guess.pos (B:=4294967296) (r:=r) (un:=un1) (by omega) (bK hT)
     have HS:=aU (hG.out.step N6.out (by rw [←N2.out];exact N5.out) (bK hT) hqp)
     clear hT
     by_cases hrB:(4294967296:Int)≤(r:Int)+(yn1:Int)
     ·go_wp2_with fail
      go_meet
      case rel=>
       obtain⟨a,v,b,c⟩:=Guess.fin N2.out N3.out hyylo N5.out N6.out HS.out (bK ⟨by omega,by omega⟩)
       exact⟨q-1,r+yn1,v,fG,fG,a,b,c,rfl⟩
     ·go_wp2_with fail
      go_round
      case rel=>exact⟨q-1,r+yn1,fG,fG,by omega,by omega,HS⟩
      case measure=>simp [intOf];omega
    ·have hTi:¬4294967296*(r:Int)+(un1:Int)<(q:Int)*(yn0:Int):=by rw [←jA];omega
     have HT:=aU (show q*yn0≤4294967296*r+un1 by omega)
     clear hT
     go_wp2_with fail
     go_meet
     case rel=>
      obtain⟨a,v,b,c⟩:=Guess.fin N2.out N3.out hyylo N5.out N6.out hG.out (bE ⟨by omega,HT.out⟩)
      exact⟨q,r,v,rfl,rfl,a,b,c,rfl⟩
 case rest=>
  obtain⟨qa,ra,v,rfl,rfl,hqa,hv,hvy,rfl⟩:=hcut
  clear hq1' hrh'
  go_upto_block 2 with (first
   | ((with_reducible refine cU (some 87) ?_);refine dE rfl rfl rfl rfl rfl oF ?_;intro r87 h87 hb87)
   | ((with_reducible refine cU (some 89) ?_);refine dE rfl rfl rfl rfl rfl vV ?_;intro r89 h89 hb89)
   | ((with_reducible refine cU (some 92) ?_);refine dE rfl rfl rfl rfl rfl oF ?_;intro r92 h92 hb92)
   | ((with_reducible refine cU (some 93) ?_);refine dE rfl rfl rfl rfl rfl (nC (by omega)) ?_;intro v' hv' hbv';obtain rfl:v'=v:=AF h87.out h89.out h92.out hv'.out hv.out (by omega))
   | ((with_reducible refine cU (some 96) ?_);refine dE rfl rfl rfl rfl rfl (B2 (by omega) (by omega)) ?_ (hf:=(by have:=iM v' yn1;omega));intro q2 hq2 hq2b)
   | ((with_reducible refine cU (some 100) ?_);refine dE rfl rfl rfl rfl rfl oF ?_;intro r100 h100 hb100)
   | ((with_reducible refine cU (some 101) ?_);refine dE rfl rfl rfl rfl rfl (nC (by omega)) ?_;intro rh2 hrh2 hrhb2))
  have hq2':Hid (q2=v'/yn1):=hq2
  have hrh2':Hid (rh2=v'%yn1):=C6 (by omega) (by omega) hq2.out h100.out hrh2.out
  have NV:=aU hvy
  have N7:=aU (show un0<4294967296 by omega)
  clear hvy hrh2 hq2 h100 h87 h89 h92 hv' hb87 hb89 hb92 hbv' hb100 hrhb2 hq2b
  go_cut [18,16] (fun a b wc=>∃q r v:Nat,a= AT (q:Int)∧b= AT (r:Int)∧q≤4294967295∧Hid (v'*4294967296+un0=q*yy+v)∧v<yy∧w=wc)
  case first=>
   have HG0:=aU (Guess.start (B:=4294967296) (yn1:=yn1) (yn0:=yn0) (u:=v') (un:=un0) (by omega) (by have:=NL.out;omega) N7.out (by rw [←N2.out];exact NV.out) N3.out)
   refine wp_block ?_
   go_wp2_with fail
   go_loop [18,16] (fun a b=>∃q r:Nat,a= AT (q:Int)∧b= AT (r:Int)∧q≤4294967297∧r≤4294967295∧Hid (Guess 4294967296 yn1 yn0 v' un0 q r)) (fun a b=>(intOf a).toNat)
   case atStart=>exact⟨q2,rh2,rfl,rfl,by have:=HG0.out.qb;rw [hq2'.out];omega,by rw [hrh2'.out];have:=j7 v' (show 0<yn1 by omega);omega,by rw [hq2'.out,hrh2'.out];exact HG0⟩
   case round=>
    obtain⟨q,r,rfl,rfl,hq,hr,hG⟩:=hrel
    by_cases hqB:(4294967296:Int)≤(q:Int)
    ·have HS:=aU (hG.out.step N7.out (by rw [←N2.out];exact NV.out) (bE (by omega)) (by omega))
     have HQ:=aU hq
     by_cases hrB:(4294967296:Int)≤(r:Int)+(yn1:Int)
     ·go_upto_region 27 with (fail)
      have HQB:=aU hqB
      clear hqB
      go_wp2_with fail
      go_meet
      case rel=>
       obtain⟨a,v,b,c⟩:=Guess.fin N2.out N3.out hyylo NV.out N7.out HS.out (bK ⟨by have:=HQB.out;omega,by omega⟩)
       exact⟨q-1,r+yn1,v,fG (h:=(by have:=HQB.out;omega)),fG,a,b,c,rfl⟩
     ·go_upto_region 27 with (fail)
      have HQB:=aU hqB
      clear hqB
      go_wp2_with fail
      go_round
      case rel=>exact⟨q-1,r+yn1,fG (h:=(by have:=HQB.out;omega)),fG,by omega,by omega,HS⟩
      case measure=>have:=HQB.out;simp [intOf];omega
    ·have hp1:(q:Int)*(yn0:Int)≤18446744065119617025:=by
      have h:q*yn0≤4294967295*4294967295:=fV (by omega) (by omega)
      rw [←jA];omega
     have hp0:0≤(q:Int)*(yn0:Int):=Int.mul_nonneg (by omega) (by omega)
     by_cases hT:4294967296*r+un0<q*yn0
     ·have hTi:4294967296*(r:Int)+(un0:Int)<(q:Int)*(yn0:Int):=by rw [←jA];omega
      have hqp:=Guess.pos (B:=4294967296) (r:=r) (un:=un0) (by omega) (bK hT)
      have HS:=aU (hG.out.step N7.out (by rw [←N2.out];exact NV.out) (bK hT) hqp)
      clear hT
      by_cases hrB:(4294967296:Int)≤(r:Int)+(yn1:Int)
      ·go_wp2_with fail
       go_meet
       case rel=>
        obtain⟨a,v,b,c⟩:=Guess.fin N2.out N3.out hyylo NV.out N7.out HS.out (bK ⟨by omega,by omega⟩)
        exact⟨q-1,r+yn1,v,fG,fG,a,b,c,rfl⟩
      ·go_wp2_with fail
       go_round
       case rel=>exact⟨q-1,r+yn1,fG,fG,by omega,by omega,HS⟩
       case measure=>simp [intOf];omega
     ·have hTi:¬4294967296*(r:Int)+(un0:Int)<(q:Int)*(yn0:Int):=by rw [←jA];omega
      have HT:=aU (show q*yn0≤4294967296*r+un0 by omega)
      clear hT
      go_wp2_with fail
      go_meet
      case rel=>
       obtain⟨a,v,b,c⟩:=Guess.fin N2.out N3.out hyylo NV.out N7.out hG.out (bE ⟨by omega,HT.out⟩)
       exact⟨q,r,v,rfl,rfl,a,b,c,rfl⟩
  case rest=>
   obtain⟨qb,rb,r,rfl,rfl,hqb,hr,hry,rfl⟩:=hcut
   clear hq2' hrh2'
   have HR:=aU hry
   clear hry
   go_wp2_with (first
    | ((with_reducible refine cU (some 126) ?_);refine dE rfl rfl rfl rfl rfl oF ?_;intro r126 h126 hb126)
    | ((with_reducible refine cU (some 128) ?_);refine dE rfl rfl rfl rfl rfl vV ?_;intro r128 h128 hb128)
    | ((with_reducible refine cU (some 131) ?_);refine dE rfl rfl rfl rfl rfl oF ?_;intro r131 h131 hb131)
    | ((with_reducible refine cU (some 132) ?_);refine dE rfl rfl rfl rfl rfl (nC (by omega)) ?_;intro r' hr' hbr';obtain rfl:r'=r:=AF h126.out h128.out h131.out hr'.out hr.out (by have:=HR.out;omega))
    | ((with_reducible refine cU (some 134) ?_);refine dE rfl rfl rfl rfl rfl (m7 hs64) ?_ (hf:=(by have:=iM r' (2^s);omega));intro rr hrr hrrb))
   go_ret2
   obtain⟨e1,e2⟩:=PJ (by omega) N1.out N8.out N9.out hv.out hr.out HR.out
   have hy0:0<y:=by omega
   refine⟨_,_,e1.symm,e2.symm,by omega,?_,?_,0,rfl⟩
   ·rw [←e2];exact j7 _ hy0
   ·rw [←hrr.out];simp
theorem FH {lo:Nat}(hlt:hi<y)(hlo:lo≤18446744073709551615)(hyb:y≤18446744073709551615)(w:a0):aR aJ 109 #[AT (hi:Int),AT (lo:Int),AT (y:Int)] w (zN hi lo y w):=by
 rcases kH hi with e | e
 ·subst e;exact PF hlo (by omega) hyb w
 ·exact PG e hlt hlo hyb w
end
section
def nb (b:Nat):List Nat→Nat
 | []=>0
 | x::r=>x+b*nb b r
theorem wZ (b x:Nat)(r:List Nat):nb b (x::r)=x+b*nb b r:=rfl
theorem CR (xs:List Nat):nv xs=nb WB xs:=by
 induction xs with
 | nil=>rfl
 | cons x r ih=>rw [mF,wZ,ih]
def mJ (b:Nat):Nat→Nat→List Nat
 | 0,_=> []
 | f+1,n=>if n=0 then [] else n%b::mJ b f (n/b)
def db (b n:Nat):List Nat:=mJ b n n
theorem ER (hb:2≤b)(f:Nat):∀(g n:Nat),n≤f→n≤g→mJ b f n=mJ b g n:=by
 induction f with
 | zero=>
  intro g n h _
  have:n=0:=by omega
  subst this
  cases g <;> simp [mJ]
 | succ f ih=>
  intro g n h hg
  by_cases h0:n=0
  ·subst h0;cases g <;> simp [mJ]
  ·cases g with
   | zero=>omega
   | succ g=>
    have hlt:n/b<n:=pK (by omega) (by omega)
    simp only [mJ,h0,if_false]
    rw [ih g (n/b) (by omega) (by omega)]
theorem PN (b:Nat):db b 0= []:=rfl
theorem yL (hb:2≤b)(h:n≠0):db b n=n%b::db b (n/b):=by
 have o:n/b<n:=pK (by omega) (by omega)
 unfold db
 conv=>lhs;rw [ER hb n (n+1) n (aI _) (by omega)]
 simp only [mJ,h,if_false]
 rw [ER hb n (n/b) (n/b) (by omega) (aI _)]
theorem EQ (hb:2≤b){p:Nat→Prop}(h0:p 0)(hs:∀n,n≠0→p (n/b)→p n)(n:Nat):p n:=by
 induction n using pH with
 | ind n ih=>
  by_cases h:n=0
  ·subst h;exact h0
  ·exact hs n h (ih _ (pK (by omega) (by omega)))
theorem KA (hb:2≤b)(n:Nat):nb b (db b n)=n:=by
 induction n using EQ hb with
 | h0=>rfl
 | hs n h ih=>rw [yL hb h,wZ,ih];exact mV n b
theorem PQ (hb:2≤b):db b n= []↔n=0:=by
 constructor
 ·intro h;rw [←KA hb n,h];rfl
 ·rintro rfl;rfl
theorem LN (hb:2≤b):(db b n).length=0↔n=0:=by
 rw [zU];exact PQ hb
theorem H8 (n:Nat):wd n=db WB n:=by
 induction n using vT with
 | h0=>rfl
 | hs n h ih=>rw [m5 h,yL zG h,ih]
theorem PP (hb:2≤b)(n:Nat):(db b n).length=0∨(db b n).getD ((db b n).length-1) 0≠0:=by
 induction n using EQ hb with
 | h0=>exact bE rfl
 | hs n h ih=>
  right
  rw [yL hb h]
  rcases ih with h' | h'
  ·have h2:n/b=0:=(LN hb).1 h'
   have h3:n<b:=(Nat.div_eq_zero_iff.1 h2).resolve_left (by omega)
   rw [h2,PN]
   simp only [List.length_singleton,Nat.sub_self]
   show n%b≠0
   rw [gP h3];exact h
  ·have hl:(db b (n/b)).length≠0:=fun e=>by
    rw [zU.1 e] at h';simp at h'
   obtain⟨k,hk⟩:∃k,(db b (n/b)).length=k+1:=⟨_,(Nat.succ_pred_eq_of_ne_zero hl).symm⟩
   have e:(db b (n/b)).length-1=k:=by omega
   rw [e] at h'
   rw [iE,hk,zR]
   simpa using h'
theorem MD (h:i<k):(xs.take k).getD i 0=xs.getD i 0:=by
 simp only [bO,iN,if_pos h]
theorem ME (h:i<l.length)(x:Nat):(l.set i x).getD i 0=x:=by simp [bO,h]
theorem getD_set_ne (h:i≠j)(x:Nat):(l.set i x).getD j 0=l.getD j 0:=by simp [bO,List.getElem?_set_ne h]
theorem CT (b:Nat):∀{l:List Nat}{k:Nat},k<l.length→∀x,nb b (l.set k x)+b^k*l.getD k 0=nb b l+b^k*x
 | y::r,0,_,x=>by simp [nb];omega
 | y::r,k+1,h,x=>by
  have ih:=CT b (l:=r) (k:=k) (by simpa using h) x
  simp only [List.set_cons_succ,wZ,List.getD_cons_succ,eW]
  have e:b*(nb b (r.set k x)+b^k*r.getD k 0)=b*(nb b r+b^k*x):=by rw [ih]
  simp only [dC,←cW,cY b (b^k)] at e
  omega
theorem oN (h:k<l.length)(x:Nat):nv (l.set k x)+WB^k*l.getD k 0=nv l+WB^k*x:=by
 rw [CR,CR];exact CT WB h x
theorem wW (h:i<l.length)(x:Nat):nv ((l.set i x).take (i+1))=nv (l.take i)+WB^i*x:=by
 rw [dY _ i (by rw [List.length_set];exact h),ME h,List.take_set_of_le (aI i)]
end
section
open Go.RowKit
theorem lH:(Tryz.prog.info? 45).map (fun i=>(i.zero,i.size,i.bytes))=some (some (AT 0),1,8):=by kernel_rfl
theorem wB:(Tryz.prog.info? 45).map (·.size)=some 1:=by kernel_rfl
def mO (w:a0)(m:Nat)(e:dI)(w':a0):Prop:=
 ∃A n cap,e= .returned (By A n cap)∧Hid (n=(wd m).length)∧Rd w' A n cap (wd m)∧Own w' w.heap.size 45 1 A n cap ((wd m).map bD)∧Ext w w'
theorem rM (hg:w.heap.size≤g)(hb:Bk w' g 45 (ys.map bD))(hl:ys.length=cap)(hn:n≤cap)(hc:cap≤maxLen)(hy:ys.take n=wd m)(hx:Ext w w'):mO w m (.returned (By (some ⟨g,0,none⟩) n cap)) w':=by
 have h:n=(wd m).length:=by rw [←hy,dH];omega
 have o:Own w' w.heap.size 45 1 (some ⟨g,0,none⟩) n cap ((wd m).map bD):=
  Own.mk_ hg hb hn hc (by simpa using hl) (by rw [gY,←o9,hy])
 exact⟨_,_,_,rfl,h,o.rd (rL m),o,hx⟩
theorem R7 (hm:m=0)(hx:Ext w w'):mO w m (.returned (By none 0 0)) w':=by
 subst hm
 exact⟨none,0,0,rfl,rfl,Rd.nil w',Own.nil w' _ _ _,hx⟩
def R5 (xs:List Nat)(n:Nat)(w:a0)(e:dI)(w':a0):Prop:=
 ∃m:Nat,Hid (m=(wd (nv xs)).length)∧m≤n∧e= .returned (AI (m:Int))∧w=w'
theorem iG (hx:Rd w A n cap xs)(hl:n≤1099511627776:=by omega):aR aJ 69 #[By A n cap] w (R5 xs n w):=by
 have hlen:=aU hx.len
 go_enter Tryz.func69,Tryz.ntmps69
 go_wp2_with fail
 go_loop [3] (fun u=>∃k:Nat,k≤n∧u= AI (k:Int)∧nv (xs.take k)=nv xs) (fun u=>(intOf u).toNat)
 case atStart=>exact⟨n,aI _,rfl,by rw [←hlen.out,List.take_length]⟩
 case round=>
  obtain⟨k,hk,rfl,hv⟩:=hrel
  have HV:=aU hv
  clear hv
  by_cases h0:0<k
  ·obtain⟨a,x,rfl,hxk,hxb,hc⟩:=hx.get (i:=k-1) (by omega)
   by_cases hz:x=0
   ·subst hz
    go_wp2_with fail
    go_round
    case rel=>
     refine⟨k-1,by omega,by congr 1;omega,?_⟩
     rw [←HV.out,←oM xs (k-1) (by rw [hlen.out];omega) hxk.out,jS h0]
    case measure=>simp [intOf];omega
   ·have hzb:((x:Int)==0)=false:=by simp;omega
    go_wp2_with fail
    go_ret
    refine⟨k,?_,hk,rfl,rfl⟩
    have:=sM (k:=k) hx.wf (by rw [hlen.out];exact hk) HV.out (bK (by rw [hxk.out];exact hz))
    show k=_
    rw [this,dH,hlen.out];omega
  ·go_wp2_with fail
   go_ret
   refine⟨k,?_,hk,rfl,rfl⟩
   have:=sM (k:=k) hx.wf (by rw [hlen.out];exact hk) HV.out (bE (by omega))
   show k=_
   rw [this,dH,hlen.out];omega
theorem KB (hx:Rd w A n cap xs)(hl:n≤1099511627776):aR aJ 62 #[By A n cap] w (mO w (nv xs)):=by
 have hlen:=aU hx.len
 go_enter Tryz.func62,Tryz.ntmps62
 go_wp2_with fail
 refine (iG hx (hl:=hl)).mono ?_
 rintro e w' ⟨m,hm,hmn,rfl,rfl⟩
 have hmk:=lD (P:=aJ) Tryz.underlying39 lH G (by decide) (m:Int) (by omega) (by omega)
 simp only [jV] at hmk
 go_wp2_with ((with_reducible refine cU (some 11) ?_);refine vL G (.tmp 9) (.tmp 10) 39 39 G G G Tryz.underlying39 wB (Bk.new' _ _ _) (hx.rv.ext ((Ext.refl _).alloc _)) (fun _=>rfl) ?fit (uH xs) ?_;rotate_left;intro w1 hb1 hu1)
 case fit=>simp [vK]
 go_ret
 have e:wd (nv xs)=xs.take m:=by
  have h1:=hx.wf
  have h2:m≤xs.length:=by rw [hlen.out];exact hmn
  exact m4 h1 hm.out
 refine rM (g:=w.heap.size) (ys:=xs.take m) (aI _) ?_ ?_ (aI _) (by rw [eY];omega) ?_ (hu1.ext ((Ext.refl w).alloc _) (aI _))
 ·have h:=hb1
  rw [vK,mB,←o9,wA,IF _ _ (by rw [List.length_replicate,dH,hlen.out];omega)] at h
  exact h
 ·rw [dH,hlen.out];omega
 ·rw [List.take_take,Nat.min_self,e]
theorem iH (hx:Rd w A n cap xs)(hl:n≤1099511627776:=by omega):aR aJ 47 #[By A n cap] w (mO w (nv xs)):=by
 go_enter Tryz.func47,Tryz.ntmps47
 go_wp2_with fail
 refine (KB hx hl).mono ?_
 rintro e w' ⟨A1,n1,c1,rfl,h⟩
 go_wp2_with fail
 go_ret
 exact⟨A1,n1,c1,rfl,h⟩
def G2 (a b:Nat)(w:a0)(e:dI)(w':a0):Prop:=
 ∃c:Int,Hid (c=fK a b)∧ -1≤c∧c≤1∧e= .returned (AI c)∧Ext w w'
theorem rU {a:Nat}{c:Int}(h:fK a b=c)(hx:Ext w w'):G2 a b w (.returned (AI c)) w':=by
 subst h
 exact⟨_,rfl,(EY a b).1,(EY a b).2,rfl,hx⟩
theorem tC (hx:Rd w A n cap xs)(hy:Rd w B n' cap' ys)(hl:n≤1099511627776:=by omega)(hl':n'≤1099511627776:=by omega):aR aJ 71 #[By A n cap,By B n' cap'] w (G2 (nv xs) (nv ys) w):=by
 have hlx:=aU hx.len
 have hly:=aU hy.len
 go_enter Tryz.func71,Tryz.ntmps71
 go_wp2_with fail
 refine (iG hx (hl:=hl)).mono ?_
 rintro e w' ⟨m,hm,hmn,rfl,rfl⟩
 go_wp2_with fail
 refine (iG hy (hl:=hl')).mono ?_
 rintro e w' ⟨k,hk,hkn,rfl,rfl⟩
 rcases Nat.lt_trichotomy m k with hlt | rfl | hgt
 ·have h1:((m:Int) != (k:Int))=true:=by simp;omega
  go_wp2_with fail
  go_ret
  exact rU (EW (D3 (by rw [←hm.out,←hk.out];exact hlt))) aB
 ·have h1:((m:Int) != (m:Int))=false:=by simp
  go_wp2_with fail
  go_loopw [7] (fun u wr=>∃i:Nat,i≤m∧u= AI ((i:Int)-1)∧Hid (fK (nv (xs.take i)) (nv (ys.take i))=fK (nv xs) (nv ys))∧Ext w wr) (fun u wr=>(intOf u+1).toNat)
  case atStart=>exact⟨m,aI _,rfl,(show _=_ by rw [mE hx.wf hm.out,mE hy.wf hk.out]),Ext.refl w⟩
  case round=>
   obtain⟨i,hi,rfl,hv,hext⟩:=hrel
   by_cases h0:0<i
   ·obtain⟨a,x,rfl,hxk,hxb,hc⟩:=(hx.ext hext).get (i:=i-1) (by omega)
    obtain⟨b,y,rfl,hyk,hyb,hd⟩:=(hy.ext hext).get (i:=i-1) (by omega)
    have hi':i-1+1=i:=by omega
    have hcast:((i-1:Nat):Int)=(i:Int)-1:=by omega
    have b1:(0:Int)≤(i:Int)-1:=by omega
    rcases Nat.lt_trichotomy x y with hlt | rfl | hgt
    ·go_wp2_with fail
     go_quiet (fail)
     go_wp2_with fail
     go_ret
     refine rU ?_ (by repeat (first | exact Ext.refl _ | assumption | apply Ext.drewN | apply Ext.drew | apply Ext.alloc))
     rw [←hv.out,←hi']
     exact EW (CP hx.wf (by rw [hlx.out];omega) (by rw [hly.out];omega) (by rw [hxk.out,hyk.out];exact hlt))
    ·go_wp2_with fail
     go_quiet (fail)
     go_wp2_with fail
     go_quiet (fail)
     go_wp2_with fail
     go_roundw
     case rel=>
      refine⟨i-1,by omega,by congr 1;omega,?_,(by repeat (first | exact Ext.refl _ | assumption | apply Ext.drewN | apply Ext.drew | apply Ext.alloc))⟩
      show _=_
      rw [←hv.out,←PV (k:=i-1) (by rw [hlx.out];omega) (by rw [hly.out];omega) (by rw [hxk.out,hyk.out]),hi']
     case measure=>simp [intOf];omega
    ·go_wp2_with fail
     go_quiet (fail)
     go_wp2_with fail
     go_quiet (fail)
     go_wp2_with fail
     go_ret
     refine rU ?_ (by repeat (first | exact Ext.refl _ | assumption | apply Ext.drewN | apply Ext.drew | apply Ext.alloc))
     rw [←hv.out,←hi']
     exact EX (CP hy.wf (by rw [hly.out];omega) (by rw [hlx.out];omega) (by rw [hxk.out,hyk.out];exact hgt))
   ·go_wp2_with fail
    go_ret
    refine rU ?_ hext
    rw [←hv.out,show i=0 from by omega]
    simp [PX]
 ·have h1:((m:Int) != (k:Int))=true:=by simp;omega
  go_wp2_with fail
  go_ret
  exact rU (EX (D3 (by rw [←hm.out,←hk.out];exact hgt))) aB
theorem FQ (hli:i<l.length)(hxi:i<xs.length)(hmy:m≤ys.length)(h:nv (l.take i)+WB^i*c=nv (xs.take i)+nv (ys.take (min i m)))(hx:xs.getD i 0=x)(hy:(if i<m then ys.getD i 0 else 0)=y)(hs:s+WB*d=x+y+c):nv ((l.set i s).take (i+1))+WB^(i+1)*d=nv (xs.take (i+1))+nv (ys.take (min (i+1) m)):=by
 have H:(l.set i s).getD i 0=s:=by simp [bO,hli]
 have J:(l.set i s).take i=l.take i:=by rw [List.take_set_of_le (aI i)]
 rw [dY _ i (by rw [List.length_set];exact hli),H,J,dY xs i hxi,hx]
 have I:nv (ys.take (min (i+1) m))=nv (ys.take (min i m))+WB^i*y:=by
  by_cases o:i<m
  ·rw [if_pos o] at hy
   rw [iD (by omega),iD (by omega),dY ys i (by omega),hy]
  ·rw [if_neg o] at hy
   rw [Nat.min_eq_right (by omega),Nat.min_eq_right (by omega),←hy,iC,eA]
 rw [I,eW,cW]
 have U:WB^i*(s+WB*d)=WB^i*(x+y+c):=by rw [hs]
 simp only [dC] at U
 omega
def RH (w:a0)(S:Nat)(u v:aF)(wc:a0):Prop:=
 ∃A n cap xs B n' cap' ys,u= By A n cap∧v= By B n' cap'∧Rd wc A n cap xs∧Rd wc B n' cap' ys∧n≤1099511627775∧n'≤1099511627775∧Hid (nv xs+nv ys=S)∧(wd (nv ys)).length≤(wd (nv xs)).length∧Ext w wc
theorem KE (hx:Rd w A n cap xs)(hl:n≤1099511627775)(hy:Rd w B n' cap' ys)(hl':n'≤1099511627775):aR aJ 101 #[By A n cap,By B n' cap'] w (mO w (nv xs+nv ys)):=by
 go_enter Tryz.func101,Tryz.ntmps101
 go_upto_if 15 with (fail)
 refine (iG hx).mono ?_
 rintro e w' ⟨m,hm,hmn,rfl,rfl⟩
 go_upto_if 15 with (fail)
 refine (iG hy).mono ?_
 rintro e w' ⟨k,hk,hkn,rfl,rfl⟩
 go_upto_if 15 with (fail)
 go_cut [0,1] (fun u v wc=>RH w (nv xs+nv ys) u v wc)
 case first=>
  by_cases hlt:m<k
  ·go_wp2_with fail
   go_meet
   case rel=>exact⟨B,n',cap',ys,A,n,cap,xs,rfl,rfl,hy,hx,hl',hl,Nat.add_comm _ _,by rw [←hm.out,←hk.out];omega,Ext.refl w⟩
  ·go_wp2_with fail
   go_meet
   case rel=>exact⟨A,n,cap,xs,B,n',cap',ys,rfl,rfl,hx,hy,hl,hl',rfl,by rw [←hm.out,←hk.out];omega,Ext.refl w⟩
 case rest=>
  clear hm hk hmn hkn hx hy hl hl'
  obtain⟨A,n,cap,xs,B,n',cap',ys,rfl,rfl,hx,hy,hl,hl',hS,hle,hext⟩:=hcut
  go_wp2_with fail
  refine (iG hx).mono ?_
  rintro e w' ⟨m,hm,hmn,rfl,rfl⟩
  go_wp2_with fail
  refine (iG hy).mono ?_
  rintro e w' ⟨k,hk,hkn,rfl,rfl⟩
  have hkm:k≤m:=by rw [hm.out,hk.out];exact hle
  have hlx:=aU hx.len
  have hly:=aU hy.len
  have hmk:=lD (P:=aJ) Tryz.underlying39 lH G (by decide) ((m:Int)+1) (by omega) (by omega)
  have et:((m:Int)+1).toNat=m+1:=by omega
  rw [et] at hmk
  clear et
  go_wp2_with fail
  clear hmk
  obtain⟨g,hg⟩:∃g,wc.heap.size=g:=⟨_,rfl⟩
  rw [hg]
  obtain⟨wa,hwa⟩:∃wa,wc.alloc (.cells (zc (.int .u64 0) (m+1)) 45)=wa:=⟨_,rfl⟩
  rw [hwa]
  have hbk:Bk wa g 45 ((dL (m+1) 0).map bD):=by
   rw [←hwa,←hg,←mB];exact Bk.new' _ _ _
  have hea:Ext wc wa:=by rw [←hwa];exact (Ext.refl wc).alloc _
  have hgs:w.heap.size≤g:=by rw [←hg];exact hext.size
  have hgc:wc.heap.size≤g:=by rw [hg];exact aI _
  clear hg hwa
  go_loopw [26,8] (fun u v wr=>∃(i c:Nat) (l:List Nat),i≤m∧c≤1∧u= AI (i:Int)∧v= AT (c:Int)∧Hid (l.length=m+1)∧Wf l∧Bk wr g 45 (l.map bD)∧
   Hid (nv (l.take i)+WB^i*c=nv (xs.take i)+nv (ys.take (min i k)))∧Ext wc wr) (fun u v wr=>m-(intOf u).toNat)
  case atStart=>exact⟨0,0,_,bX _,bX _,rfl,rfl,List.length_replicate,lN _,hbk,by simp [Hid,nv],hea⟩
  case round=>
   obtain⟨i,c,l,hi,hc,rfl,rfl,hll,hwl,hb,hv,hr⟩:=hrel
   clear hbk hea
   by_cases him:i<m
   ·obtain⟨a,x,rfl,hxk,hxb,hcx⟩:=(hx.ext hr).get (i:=i) (by omega)
    obtain⟨o,ho,_,hco⟩:=hb.word hwl (i:=i) (by rw [hll.out];omega)
    have hfr:=hb.frozen i
    by_cases hik:i<k
    ·obtain⟨b,y,rfl,hyk,hyb,hcy⟩:=(hy.ext hr).get (i:=i) (by omega)
     go_wp2_with ((with_reducible refine cU (some 45) ?_);refine AL G (.tmp 42) (.tmp 43) (.tmp 44) G x y c G G G hc hxb hyb ?_;intro s d hs hsb hd)
     go_roundw
     case rel=>exact⟨i+1,d,_,by omega,hd,by go_num,rfl,by show _=_;rw [List.length_set];exact hll.out,fD hwl i (by rw [cQ];omega),by rw [←eS];exact hb.set i _,
      FQ (by rw [hll.out];omega) (by rw [hlx.out];omega) (by rw [hly.out];omega) hv.out hxk.out (by rw [if_pos hik];exact hyk.out) hs.out,hr.setCell hgc _⟩
     case measure=>simp [intOf];omega
    ·go_wp2_with ((with_reducible refine cU (some 45) ?_);refine AL G (.tmp 42) (.tmp 43) (.tmp 44) G x 0 c G G G hc hxb (by omega) ?_;intro s d hs hsb hd)
     go_roundw
     case rel=>exact⟨i+1,d,_,by omega,hd,by go_num,rfl,by show _=_;rw [List.length_set];exact hll.out,fD hwl i (by rw [cQ];omega),by rw [←eS];exact hb.set i _,
      FQ (by rw [hll.out];omega) (by rw [hlx.out];omega) (by rw [hly.out];omega) hv.out hxk.out (by rw [if_neg hik]) hs.out,hr.setCell hgc _⟩
     case measure=>simp [intOf];omega
   ·obtain rfl:i=m:=by omega
    obtain⟨o,ho,_,hco⟩:=hb.word hwl (i:=i) (by rw [hll.out];omega)
    have hfr:=hb.frozen i
    have hb2:=hb.set i (AT (c:Int))
    rw [eS] at hb2
    have hll2:Hid ((l.set i c).length=i+1):=by show _=_;rw [List.length_set];exact hll.out
    have hwl2:Wf (l.set i c):=fD hwl i (by rw [cQ];omega)
    have hr2:Rd (wr.setCell ⟨g,i,none⟩ (AT (c:Int))) (some ⟨g,0,none⟩) (i+1) (i+1) (l.set i c):=by
     have:=hb2.rd hwl2 (o:=0) (n:=i+1) (cap:=i+1) (aI _) (by rw [hll2.out];omega) (by rw [eY];omega)
     rwa [lU,List.take_of_length_le (by rw [hll2.out];omega)] at this
    have hval:Hid (nv (l.set i c)=nv xs+nv ys):=by
     show _=_
     have e1:(l.set i c).getD i 0=c:=by
      have:=hll.out
      simp [bO,this]
     have e2:(l.set i c).take i=l.take i:=by rw [List.take_set_of_le (aI i)]
     have e3:=dY (l.set i c) i (by rw [hll2.out];omega)
     rw [e1,e2,List.take_of_length_le (by rw [hll2.out];omega),hv.out,Nat.min_eq_right hkm] at e3
     rw [e3,mE hx.wf hm.out,mE hy.wf hk.out]
    go_wp2_with fail
    refine (iG hr2).mono ?_
    rintro e w' ⟨q,hq,hqn,rfl,rfl⟩
    go_wp2_with fail
    go_ret
    rw [←hS.out,←hval.out]
    exact rM (ys:=l.set i c) hgs hb2 hll2.out hqn (by rw [eY];omega) (m4 hwl2 hq.out).symm ((hext.trans hr).setCell hgs _)
def rN (w:a0)(m:Nat)(er:Int)(e:dI)(w':a0):Prop:=
 ∃A n cap,e= .returned (.tuple #[By A n cap,AI er])∧Hid (n=(wd m).length)∧Rd w' A n cap (wd m)∧Own w' w.heap.size 45 1 A n cap ((wd m).map bD)∧Ext w w'
theorem zI (h:mO w m (.returned (By A n cap)) w'):rN w m er (.returned (.tuple #[By A n cap,AI er])) w':=by
 obtain⟨A',n',c',o,r⟩:=h
 cases o
 exact⟨_,_,_,rfl,r⟩
theorem BA (hli:i<l.length)(hxi:i<xs.length)(hmy:m≤ys.length)(h:nv (l.take i)+nv (ys.take (min i m))=nv (xs.take i)+WB^i*c)(hx:xs.getD i 0=x)(hy:(if i<m then ys.getD i 0 else 0)=y)(hs:s+y+c=x+WB*d):nv ((l.set i s).take (i+1))+nv (ys.take (min (i+1) m))=nv (xs.take (i+1))+WB^(i+1)*d:=by
 have H:(l.set i s).getD i 0=s:=by simp [bO,hli]
 have J:(l.set i s).take i=l.take i:=by rw [List.take_set_of_le (aI i)]
 rw [dY _ i (by rw [List.length_set];exact hli),H,J,dY xs i hxi,hx]
 have I:nv (ys.take (min (i+1) m))=nv (ys.take (min i m))+WB^i*y:=by
  by_cases o:i<m
  ·rw [if_pos o] at hy
   rw [iD (by omega),iD (by omega),dY ys i (by omega),hy]
  ·rw [if_neg o] at hy
   rw [Nat.min_eq_right (by omega),Nat.min_eq_right (by omega),←hy,iC,eA]
 rw [I,eW,cW]
 have U:WB^i*(s+y+c)=WB^i*(x+WB*d):=by rw [hs]
 simp only [dC] at U
 omega
theorem CU (hx:Rd w A n cap xs)(hl:n≤1099511627775)(hy:Rd w B n' cap' ys)(hl':n'≤1099511627775)(hle:nv ys≤nv xs):aR aJ 102 #[By A n cap,By B n' cap'] w (rN w (nv xs-nv ys) 0):=by
 go_enter Tryz.func102,Tryz.ntmps102
 go_wp2_with fail
 refine (tC hx hy).mono ?_
 rintro e wc ⟨c,hc,hc1,hc2,rfl,hx1⟩
 have hneg:¬c<0:=by rw [hc.out,p9];omega
 go_wp2_with fail
 refine (iG (hx.ext hx1)).mono ?_
 rintro e w' ⟨m,hm,hmn,rfl,rfl⟩
 go_wp2_with fail
 refine (iG (hy.ext hx1)).mono ?_
 rintro e w' ⟨k,hk,hkn,rfl,rfl⟩
 have hkm:k≤m:=by rw [hm.out,hk.out];exact nL hle
 have hlx:=aU hx.len
 have hly:=aU hy.len
 have hmk:=lD (P:=aJ) Tryz.underlying39 lH G (by decide) (m:Int) (by omega) (by omega)
 rw [jV] at hmk
 go_wp2_with fail
 clear hmk
 obtain⟨g,hg⟩:∃g,wc.heap.size=g:=⟨_,rfl⟩
 rw [hg]
 obtain⟨wa,hwa⟩:∃wa,wc.alloc (.cells (zc (.int .u64 0) m) 45)=wa:=⟨_,rfl⟩
 rw [hwa]
 have hbk:Bk wa g 45 ((dL m 0).map bD):=by
  rw [←hwa,←hg,←mB];exact Bk.new' _ _ _
 have hea:Ext wc wa:=by rw [←hwa];exact (Ext.refl wc).alloc _
 have hgs:w.heap.size≤g:=by rw [←hg];exact hx1.size
 have hgc:wc.heap.size≤g:=by rw [hg];exact aI _
 clear hg hwa hc hneg hc1 hc2
 go_loopw [23,9] (fun u v wr=>∃(i c:Nat) (l:List Nat),i≤m∧c≤1∧u= AI (i:Int)∧v= AT (c:Int)∧Hid (l.length=m)∧Wf l∧Bk wr g 45 (l.map bD)∧
  Hid (nv (l.take i)+nv (ys.take (min i k))=nv (xs.take i)+WB^i*c)∧Ext wc wr) (fun u v wr=>m-(intOf u).toNat)
 case atStart=>exact⟨0,0,_,bX _,bX _,rfl,rfl,List.length_replicate,lN _,hbk,by simp [Hid,nv],hea⟩
 case round=>
  obtain⟨i,c,l,hi,hc,rfl,rfl,hll,hwl,hb,hv,hr⟩:=hrel
  clear hbk hea
  by_cases him:i<m
  ·obtain⟨a,x,rfl,hxk,hxb,hcx⟩:=((hx.ext hx1).ext hr).get (i:=i) (by omega)
   obtain⟨o,ho,_,hco⟩:=hb.word hwl (i:=i) (by rw [hll.out];omega)
   have hfr:=hb.frozen i
   by_cases hik:i<k
   ·obtain⟨b,y,rfl,hyk,hyb,hcy⟩:=((hy.ext hx1).ext hr).get (i:=i) (by omega)
    go_wp2_with ((with_reducible refine cU (some 42) ?_);refine AH G (.tmp 39) (.tmp 40) (.tmp 41) G x y c G G G hc hxb hyb ?_;intro s d hs hsb hd)
    go_roundw
    case rel=>exact⟨i+1,d,_,by omega,hd,by go_num,rfl,by show _=_;rw [List.length_set];exact hll.out,fD hwl i (by rw [cQ];omega),by rw [←eS];exact hb.set i _,
     BA (by rw [hll.out];omega) (by rw [hlx.out];omega) (by rw [hly.out];omega) hv.out hxk.out (by rw [if_pos hik];exact hyk.out) hs.out,hr.setCell hgc _⟩
    case measure=>simp [intOf];omega
   ·go_wp2_with ((with_reducible refine cU (some 42) ?_);refine AH G (.tmp 39) (.tmp 40) (.tmp 41) G x 0 c G G G hc hxb (by omega) ?_;intro s d hs hsb hd)
    go_roundw
    case rel=>exact⟨i+1,d,_,by omega,hd,by go_num,rfl,by show _=_;rw [List.length_set];exact hll.out,fD hwl i (by rw [cQ];omega),by rw [←eS];exact hb.set i _,
     BA (by rw [hll.out];omega) (by rw [hlx.out];omega) (by rw [hly.out];omega) hv.out hxk.out (by rw [if_neg hik]) hs.out,hr.setCell hgc _⟩
    case measure=>simp [intOf];omega
  ·obtain rfl:i=m:=by omega
   have hr2:Rd wr (some ⟨g,0,none⟩) i i l:=by
    have:=hb.rd hwl (o:=0) (n:=i) (cap:=i) (aI _) (by rw [hll.out];omega) (by rw [eY];omega)
    rwa [lU,List.take_of_length_le (by rw [hll.out];omega)] at this
   have hval:Hid (nv l=nv xs-nv ys):=by
    show _=_
    have e:=hv.out
    rw [Nat.min_eq_right hkm,mE hx.wf hm.out,mE hy.wf hk.out,List.take_of_length_le (by rw [hll.out];omega)] at e
    have hlt:nv l<WB^i:=by have:=i5 hwl;rwa [hll.out] at this
    by_cases h0:c=0
    ·rw [h0,iC] at e;omega
    ·have hc1:c=1:=by omega
     rw [hc1,gY] at e;omega
   go_wp2_with fail
   refine (iG hr2).mono ?_
   rintro e w' ⟨q,hq,hqn,rfl,rfl⟩
   go_wp2_with fail
   go_ret2
   rw [←hval.out]
   exact zI (rM (ys:=l) hgs hb hll.out hqn (by rw [eY];omega) (m4 hwl hq.out).symm (hx1.trans hr))
theorem QM (hw:Wf xs)(hm:m=(wd (nv xs)).length)(h0:0<m)(hx:xs.getD (m-1) 0=x):x≠0∧64*(m-1)+dR x=dR (nv xs):=by
 have e:=m4 hw hm
 have I:nv xs≠0:=fun h=>by rw [h,lA] at hm;simp at hm;omega
 have U:m≤xs.length:=by rw [hm];exact fR hw
 have e2:nv xs=nv (xs.take (m-1))+WB^(m-1)*x:=by
  rw [←mE hw hm,←hx,←dY xs (m-1) (by omega),jS h0]
 have J:=jI hw (m-1)
 have o:x≠0:=by
  rintro rfl
  have H:=C8 I
  rw [←hm] at H
  rw [iC] at e2
  omega
 refine⟨o,(FG ?_ (bK ?_)).symm⟩
 ·have H:=tK x
  rw [eK,Nat.pow_mul,←nX]
  have h2:WB^(m-1)*x+WB^(m-1)≤WB^(m-1)*2^dR x:=by
   have:=j6 (WB^(m-1)) (o5 H)
   rwa [uQ] at this
  omega
 ·have H:=yX o
  have hb:dR x≠0:=fun h=>o (rD.1 h)
  rw [Nat.add_sub_assoc (by omega),eK,Nat.pow_mul,←nX]
  have:=j6 (WB^(m-1)) H
  omega
def RD (k:Nat)(w:a0)(e:dI)(w':a0):Prop:=∃n:Nat,Hid (n=k)∧e= .returned (AI (n:Int))∧Ext w w'
theorem KD (hx:Rd w A n cap xs)(hl:n≤1099511627775):aR aJ 53 #[By A n cap] w (RD (dR (nv xs)) w):=by
 go_enter Tryz.func53,Tryz.ntmps53
 go_wp2_with fail
 refine (iG hx).mono ?_
 rintro e w' ⟨m,hm,hmn,rfl,rfl⟩
 by_cases h0:0<m
 ·obtain⟨a,x,rfl,hxk,hxb,hcx⟩:=hx.get (i:=m-1) (by omega)
  have hb:=aU (QM hx.wf hm.out h0 hxk.out)
  have b0:((m:Int)==0)=false:=by simp;omega
  go_wp2_with fail
  refine (bits_Len64 x hxb _).mono ?_
  rintro e w' ⟨q,hq,hq64,rfl,rfl⟩
  go_wp2_with fail
  go_ret
  refine⟨64*(m-1)+q,?_,?_,Ext.refl w⟩
  ·show _=_
   rw [hq.out];exact hb.out.2
  ·exact JM (by omega)
 ·obtain rfl:m=0:=by omega
  go_wp2_with fail
  go_ret
  refine⟨0,?_,rfl,Ext.refl w⟩
  show _=_
  rw [(k9.1 hm.out.symm),yW]
def FV (A:Option a6)(xs:List Nat)(w:a0)(e:dI)(w':a0):Prop:=
 ∃k:Nat,Hid (k=(wd (nv xs)).length)∧e= .returned (By A k k)∧Rd w A k k (wd (nv xs))∧w=w'
theorem oQ (hx:Rd w A n cap xs)(hl:n≤1099511627776:=by omega):aR aJ 78 #[By A n cap] w (FV A xs w):=by
 have hlen:=aU hx.len
 have hcap:=hx.rv.le
 have hmax:=hx.rv.max
 rw [eY] at hmax
 have fin:∀k,k≤n→k=(wd (nv xs)).length→FV A xs w (.returned (By A k k)) w:=by
  intro k hk h
  have h2:=hx.take hk (aI _) (by omega)
  rw [←m4 hx.wf h] at h2
  exact⟨k,h,rfl,h2,rfl⟩
 have FIN:=aU fin
 clear fin
 go_enter Tryz.func78,Tryz.ntmps78
 go_wp2_with fail
 go_loop [3] (fun u=>∃k:Nat,k≤n∧u= AI (k:Int)∧Hid (nv (xs.take k)=nv xs)) (fun u=>(intOf u).toNat)
 case atStart=>exact⟨n,aI _,rfl,(show _=_ by rw [←hlen.out,List.take_length])⟩
 case round=>
  obtain⟨k,hk,rfl,HV⟩:=hrel
  by_cases h0:0<k
  ·obtain⟨a,x,rfl,hxk,hxb,hc⟩:=hx.get (i:=k-1) (by omega)
   by_cases hz:x=0
   ·subst hz
    go_wp2_with fail
    go_round
    case rel=>
     refine⟨k-1,by omega,fG,?_⟩
     show _=_
     rw [←HV.out,←oM xs (k-1) (by rw [hlen.out];omega) hxk.out,jS h0]
    case measure=>simp [intOf];omega
   ·have hzb:((x:Int)==0)=false:=by simp;omega
    have hk0:¬k=0:=by omega
    go_wp2_with fail
    go_ret
    have:=sM (k:=k) hx.wf (by rw [hlen.out];exact hk) HV.out (bK (by rw [hxk.out];exact hz))
    exact FIN.out k hk (by rw [this,dH,hlen.out];omega)
  ·obtain rfl:k=0:=by omega
   go_wp2_with fail
   go_ret
   have:=sM (k:=0) hx.wf (bX _) HV.out (bE G)
   exact FIN.out 0 hk (by rw [this,dH,hlen.out];omega)
def pE (g:Nat)(zs:List Nat)(v:Nat)(w:a0)(e:dI)(w':a0):Prop:=
 ∃zs',e= .returned (.tuple #[])∧Bk w' g 45 (zs'.map bD)∧Wf zs'∧Hid (zs'.length=zs.length)∧Hid (nv zs'=v)∧Upd g w w'
theorem FP {o:Nat}(hi:o+i<l.length)(h:nv l+WB^(o+i)*c=V+WB^o*nv (ys.take i))(hz:l.getD (o+i) 0=z)(hy:i<ys.length)(hyk:ys.getD i 0=y)(hs:s+WB*d=z+y+c):nv (l.set (o+i) s)+WB^(o+i+1)*d=V+WB^o*nv (ys.take (i+1)):=by
 have I:=oN hi s
 rw [hz] at I
 rw [dY ys i hy,hyk,dC,←cW (WB^o),←eK,eW,cW]
 have H:WB^(o+i)*(s+WB*d)=WB^(o+i)*(z+y+c):=by rw [hs]
 simp only [dC] at H
 omega
theorem FO (hi:k<l.length)(h:nv l+WB^k*c=V)(hz:l.getD k 0=z)(hs:s+WB*d=z+c):nv (l.set k s)+WB^(k+1)*d=V:=by
 have H:=oN hi s
 rw [hz] at H
 rw [eW,cW]
 have o:WB^k*(s+WB*d)=WB^k*(z+c):=by rw [hs]
 simp only [dC] at o
 omega
theorem tG {o:Nat}(hz:Bk w g 45 (zs.map bD))(hwz:Wf zs)(hzl:zs.length=o+n)(hy:Rd w B m cap' ys)(hne:∀a,B=some a→0<m→a.block≠g)(hmn:m≤n)(hn:n≤1099511627776)(_ho:o≤1099511627776)(hv:nv zs+WB^o*nv ys<WB^(o+n)):aR aJ 80 #[By (some ⟨g,o,none⟩) n cap,By B m cap'] w (pE g zs (nv zs+WB^o*nv ys) w):=by
 have hly:=aU hy.len
 have hlz:=aU hzl
 have HV:=aU hv
 clear hzl hv
 go_enter Tryz.func80,Tryz.ntmps80
 go_wp2_with fail
 go_loopw [9,4] (fun u v wr=>∃(i c:Nat) (l:List Nat),i≤m∧c≤1∧u= AI (i:Int)∧v= AT (c:Int)∧Hid (l.length=o+n)∧Wf l∧Bk wr g 45 (l.map bD)∧
  Hid (nv l+WB^(o+i)*c=nv zs+WB^o*nv (ys.take i))∧Upd g w wr) (fun u v wr=>m-(intOf u).toNat)
 case atStart=>exact⟨0,0,zs,bX _,bX _,rfl,rfl,hlz.out,hwz,hz,by simp [Hid,nv],Upd.refl _ _⟩
 case round=>
  obtain⟨i,c,l,hi,hc,rfl,rfl,hll,hwl,hb,hv,hr⟩:=hrel
  by_cases him:i<m
  ·obtain⟨a,y,rfl,hyk,hyb,hcy⟩:=(hy.upd hr (fun a ha=>hne a ha (by omega))).get (i:=i) (by omega)
   obtain⟨z,hzk,hzb,hcz⟩:=hb.word hwl (i:=o+i) (by rw [hll.out];omega)
   have hfr:=hb.frozen (o+i)
   obtain⟨s,d,hs,hsb,hd,hadd⟩:=uF hc hzb hyb
   go_wp2_with fail
   go_region
   go_wp2_with fail
   go_roundw
   case rel=>exact⟨i+1,d,l.set (o+i) s,by omega,hd,by go_num,rfl,by show _=_;rw [List.length_set];exact hll.out,fD hwl _ (by rw [cQ];omega),by rw [←eS];exact (hb.set _ _).drew,
    FP (by rw [hll.out];omega) hv.out hzk.out (by rw [hly.out];omega) hyk.out hs.out,(hr.setCell _ _).drew⟩
   case measure=>simp [intOf];omega
  ·obtain rfl:i=m:=by omega
   have hv1:Hid (nv l+WB^(o+i)*c=nv zs+WB^o*nv ys):=by
    show _=_
    rw [hv.out,List.take_of_length_le (by rw [hly.out];omega)]
   clear hv
   go_wp2_with fail
   obtain⟨wo,rfl⟩:∃wo:a0,wo=wr:=⟨_,rfl⟩
   go_loopw [6,4] (fun u v wr=>∃(j c:Nat) (l:List Nat),i≤j∧j≤n∧c≤1∧u= AI (j:Int)∧v= AT (c:Int)∧Hid (l.length=o+n)∧Wf l∧Bk wr g 45 (l.map bD)∧
    Hid (nv l+WB^(o+j)*c=nv zs+WB^o*nv ys)∧Upd g w wr) (fun u v wr=>n-(intOf u).toNat)
   case atStart=>exact⟨i,c,l,aI _,hmn,hc,rfl,rfl,hll.out,hwl,hb,hv1.out,hr⟩
   case round=>
    obtain⟨j,c2,l2,hij,hjn,hc2,rfl,rfl,hl2,hw2,hb2,hv2,hr2⟩:=hrel
    clear hll hwl hb hv1 hr
    by_cases hc0:c2=0
    ·subst hc0
     have b0:((0:Int) != 0)=false:=rfl
     go_wp2_with fail
     go_end0
     have h:=hv2.out
     rw [iC,eA] at h
     exact⟨l2,rfl,hb2,hw2,(show _=_ by rw [hl2.out,hlz.out]),h,hr2⟩
    ·obtain rfl:c2=1:=by omega
     have hjn':j<n:=by
      refine uU (fun hle=>?_)
      obtain rfl:j=n:=by omega
      have h:=hv2.out
      have:=HV.out
      rw [gY] at h
      omega
     obtain⟨z,hzk,hzb,hcz⟩:=hb2.word hw2 (i:=o+j) (by rw [hl2.out];omega)
     have hfr:=hb2.frozen (o+j)
     obtain⟨s,d,hs,hsb,hd,hadd⟩:=QT hzb
     have b1:((1:Int) != 0)=true:=rfl
     go_wp2_with fail
     go_roundw
     case rel=>exact⟨j+1,d,l2.set (o+j) s,by omega,by omega,hd,by go_num,rfl,by show _=_;rw [List.length_set];exact hl2.out,fD hw2 _ (by rw [cQ];omega),by rw [←eS];exact (hb2.set _ _),
      FO (by rw [hl2.out];omega) hv2.out hzk.out hs.out,(hr2.setCell _ _)⟩
     case measure=>simp [intOf];omega
theorem B9 {Y':Nat}(hi:i<l.length)(h:nv l+Y=V+WB^i*c)(hz:l.getD i 0=z)(hY:Y'=Y+WB^i*y)(hs:s+y+c=z+WB*d):nv (l.set i s)+Y'=V+WB^(i+1)*d:=by
 have H:=oN hi s
 rw [hz] at H
 rw [eW,cW,hY]
 have o:WB^i*(s+y+c)=WB^i*(z+WB*d):=by rw [hs]
 simp only [dC] at o
 omega
theorem CW (hz:Bk w g 45 (zs.map bD))(hwz:Wf zs)(hzl:zs.length=n)(hy:Rd w B m cap' ys)(hne:∀a,B=some a→0<m→a.block≠g)(hmn:m≤n)(hn:n≤1099511627776)(hv:nv ys≤nv zs):aR aJ 100 #[By (some ⟨g,0,none⟩) n cap,By B m cap'] w (pE g zs (nv zs-nv ys) w):=by
 have hly:=aU hy.len
 have hlz:=aU hzl
 have HV:=aU hv
 clear hzl hv
 go_enter Tryz.func100,Tryz.ntmps100
 go_wp2_with fail
 go_loopw [9,4] (fun u v wr=>∃(i c:Nat) (l:List Nat),i≤n∧c≤1∧u= AI (i:Int)∧v= AT (c:Int)∧Hid (l.length=n)∧Wf l∧Bk wr g 45 (l.map bD)∧
  Hid (nv l+nv (ys.take i)=nv zs+WB^i*c)∧Upd g w wr) (fun u v wr=>n-(intOf u).toNat)
 case atStart=>exact⟨0,0,zs,bX _,bX _,rfl,rfl,hlz.out,hwz,hz,by simp [Hid,nv],Upd.refl _ _⟩
 case round=>
  obtain⟨i,c,l,hi,hc,rfl,rfl,hll,hwl,hb,hv,hr⟩:=hrel
  have fin:i=n∨(m≤i∧c=0)→pE g zs (nv zs-nv ys) w (.returned (.tuple #[])) wr:=by
   intro h
   have e:=hv.out
   rw [List.take_of_length_le (by rw [hly.out];omega)] at e
   have hlt:nv l<WB^n:=by have:=i5 hwl;rwa [hll.out] at this
   refine⟨l,rfl,hb,hwl,(show _=_ by rw [hll.out,hlz.out]),?_,hr⟩
   show _=_
   have h2:=HV.out
   by_cases h0:c=0
   ·rw [h0,iC] at e;omega
   ·have hc1:c=1:=by omega
    have hin:i=n:=by omega
    rw [hc1,gY,hin] at e;omega
  have FIN:=aU fin
  clear fin
  by_cases him:i<n
  ·obtain⟨z,hzk,hzb,hcz⟩:=hb.word hwl (i:=i) (by rw [hll.out];omega)
   have hfr:=hb.frozen i
   by_cases hiy:i<m
   ·obtain⟨a,y,rfl,hyk,hyb,hcy⟩:=(hy.upd hr (fun a ha=>hne a ha (by omega))).get (i:=i) (by omega)
    obtain⟨s,d,hs,hsb,hd,hsub⟩:=sQ hc hzb hyb
    go_wp2_with fail
    go_roundw
    case rel=>exact⟨i+1,d,l.set i s,by omega,hd,by go_num,rfl,by show _=_;rw [List.length_set];exact hll.out,fD hwl _ (by rw [cQ];omega),by rw [←eS];exact (hb.set _ _),
     B9 (by rw [hll.out];omega) hv.out hzk.out (by rw [dY ys i (by rw [hly.out];omega),hyk.out]) hs.out,hr.setCell _ _⟩
    case measure=>simp [intOf];omega
   ·by_cases hc0:c=0
    ·subst hc0
     go_wp2_with fail
     refine eV (results_none G _ _ _) G ?_
     exact FIN.out (bK ⟨by omega,by simp⟩)
    ·obtain rfl:c=1:=by omega
     obtain⟨s,d,hs,hsb,hd,hsub⟩:=IB hzb
     go_wp2_with fail
     go_roundw
     case rel=>exact⟨i+1,d,l.set i s,by omega,hd,by go_num,rfl,by show _=_;rw [List.length_set];exact hll.out,fD hwl _ (by rw [cQ];omega),by rw [←eS];exact (hb.set _ _),
      B9 (y:=0) (c:=1) (by rw [hll.out];omega) hv.out hzk.out (by rw [List.take_of_length_le (by rw [hly.out];omega),List.take_of_length_le (by rw [hly.out];omega),iC,eA]) hs.out,hr.setCell _ _⟩
     case measure=>simp [intOf];omega
  ·go_wp2_with fail
   go_end0
   exact FIN.out (bE (by omega))
def NewP (w:a0)(v n:Nat)(e:dI)(w':a0):Prop:=
 ∃g zs,e= .returned (By (some ⟨g,0,none⟩) n n)∧w.heap.size≤g∧Bk w' g 45 (zs.map bD)∧Wf zs∧Hid (zs.length=n)∧Hid (nv zs=v)∧Ext w w'
theorem CQ (h:xs.length≤n):nv (splice (dL n 0) 0 xs)=nv xs∧(splice (dL n 0) 0 xs).length=n:=by
 unfold splice
 constructor
 ·rw [List.take_zero,List.nil_append,List.drop_replicate,wY,wV,iC,eA]
 ·simp;omega
theorem FS (hx:Wf xs)(hy:Wf ys)(o:Nat):Wf (splice xs o ys):=FT (nW hx _) (FT hy (zF hx _))
theorem CV (hx:Rd w A n cap xs)(hl:n≤549755813888)(hy:Rd w B m cap' ys)(hl':m≤549755813888):aR aJ 99 #[By A n cap,By B m cap'] w (NewP w (nv xs+nv ys) (max n m+1)):=by
 have hlx:=aU hx.len
 have hly:=aU hy.len
 obtain⟨k,hk⟩:∃k,max n m=k:=⟨_,rfl⟩
 rw [hk]
 have hnk:n≤k:=by omega
 have hmk':m≤k:=by omega
 have hkb:k≤549755813888:=by omega
 have hmax:max (n:Int) (m:Int)=(k:Int):=by omega
 have hmk:=lD (P:=aJ) Tryz.underlying39 lH G (by decide) ((k:Int)+1) (by omega) (by omega)
 have et:((k:Int)+1).toNat=k+1:=by omega
 rw [et] at hmk
 clear et hk
 go_enter Tryz.func99,Tryz.ntmps99
 go_upto_region 2 with (fail)
 clear hmk
 obtain⟨g,hg⟩:∃g,w.heap.size=g:=⟨_,rfl⟩
 rw [hg]
 obtain⟨wa,hwa⟩:∃wa,w.alloc (.cells (zc (.int .u64 0) (k+1)) 45)=wa:=⟨_,rfl⟩
 rw [hwa]
 have hbk:Bk wa g 45 ((dL (k+1) 0).map bD):=by
  rw [←hwa,←hg,←mB];exact Bk.new' _ _ _
 have hea:Ext w wa:=by rw [←hwa];exact (Ext.refl w).alloc _
 have hgs:w.heap.size≤g:=by rw [hg];exact aI _
 clear hg hwa
 have hr1:n≤k+1:=by omega
 go_wp2_with ((with_reducible refine cU (some 15) ?_);refine vL G (.tmp 13) (.tmp 14) 39 39 G G G Tryz.underlying39 wB hbk (hx.rv.ext hea) (fun _=>rfl) (by rw [List.length_map,List.length_replicate];omega) (uH xs) ?_;intro w1 hb1 hu1)
 rw [←o9,wA,List.take_of_length_le (l:=xs) (by rw [hlx.out];omega)] at hb1
 obtain⟨zs,hzs⟩:∃zs,zs=splice (dL (k+1) 0) 0 xs:=⟨_,rfl⟩
 have hz2:=CQ (xs:=xs) (n:=k+1) (by rw [hlx.out];omega)
 have hwz:Wf zs:=by rw [hzs];exact FS (lN _) hx.wf _
 rw [←hzs] at hb1 hz2
 clear hzs
 obtain⟨hzv,hzl⟩:=hz2
 have HZV:=aU hzv
 have HZL:=aU hzl
 clear hzv hzl
 have he1:Ext w w1:=hu1.ext hea hgs
 refine (tG (o:=0) (n:=k+1) hb1 hwz (by rw [HZL.out];omega) (hy.ext he1) (fun a ha hp=>by have:=hy.rv.blk a ha (by have:=hy.rv.le;omega);omega) (by omega) (by omega) (by omega) ?_).mono ?_
 ·have h1:=i5 hx.wf
  have h2:=i5 hy.wf
  rw [hlx.out] at h1
  rw [hly.out] at h2
  have h3:WB^n≤WB^k:=lQ eQ hnk
  have h4:WB^m≤WB^k:=lQ eQ hmk'
  have h5:WB^k*2≤WB^k*WB:=j6 _ zG
  rw [HZV.out,Nat.pow_zero,Nat.one_mul,fE,eW]
  omega
 rintro e w2 ⟨zs',rfl,hb2,hw2,hl2,hv2,hu2⟩
 go_wp2_with fail
 go_ret
 refine⟨g,zs',rfl,hgs,hb2,hw2,(show _=_ by rw [hl2.out,HZL.out]),?_,hu2.ext he1 hgs⟩
 show _=_
 rw [hv2.out,HZV.out,Nat.pow_zero,Nat.one_mul]
theorem KK {o P:Nat}(hk:k=i+j)(hkm:k<m)(hml:m≤l.length)(h:nv (l.take m)+WB^k*c=P+x*(WB^i*nv (ys.take j)))(ho:l.getD k 0=o)(hj:j<ys.length)(hy:ys.getD j 0=y)(hs:s+WB*d=o+x*y+c):nv ((l.set k s).take m)+WB^(k+1)*d=P+x*(WB^i*nv (ys.take (j+1))):=by
 have J:=oN (l:=l.take m) (k:=k) (by rw [dH];omega) s
 rw [MD hkm,ho] at J
 rw [List.take_set,dY ys j hj,hy,dC (WB^i),dC x,←jU,←h,←cW (WB^i),←eK,←hk,eW,cW (WB^k)]
 have H:WB^k*(s+WB*d)=WB^k*(o+x*y+c):=by rw [hs]
 simp only [dC] at H
 have I:WB^k*(x*y)=x*(WB^k*y):=by rw [←cW,cY (WB^k) x,cW]
 rw [I] at H
 omega
theorem KM {capa capb:Nat}(hz:Bk w g 45 (zs.map bD))(hzz:zs=dL N 0)(hN:N=n+m)(hx:Rd w A n capa xs)(hy:Rd w B m capb ys)(hna:∀a,A=some a→0<n→a.block≠g)(hnb:∀a,B=some a→0<m→a.block≠g)(hn:n≤549755813888)(hm:m≤549755813888):aR aJ 79 #[By (some ⟨g,0,none⟩) N cap,By A n capa,By B m capb] w (pE g zs (nv xs*nv ys) w):=by
 have hlx:=aU hx.len
 have hly:=aU hy.len
 have hlz:=aU (show zs.length=n+m by rw [hzz,List.length_replicate,hN])
 have hwz:Wf zs:=by rw [hzz];exact lN _
 have hz0:=aU (show∀t,zs.getD t 0=0 by intro t;rw [hzz];simp [bO,List.getElem?_replicate];split <;> rfl)
 have hzv:=aU (show nv (zs.take m)=0 by rw [hzz,List.take_replicate,wV])
 subst hN
 clear hzz
 go_enter Tryz.func79,Tryz.ntmps79
 go_wp2_with fail
 go_loopw [16] (fun u wr=>∃(i:Nat) (l:List Nat),i≤n∧u= AI (i:Int)∧Hid (l.length=n+m)∧Wf l∧Bk wr g 45 (l.map bD)∧
  Hid (nv (l.take (i+m))=nv (xs.take i)*nv ys)∧Hid (∀t,i+m≤t→l.getD t 0=0)∧Upd g w wr) (fun u wr=>n-(intOf u).toNat)
 case atStart=>exact⟨0,zs,bX _,rfl,hlz.out,hwz,hz,by simp [Hid,nv];exact hzv.out,fun t _=>hz0.out t,Upd.refl _ _⟩
 case round=>
  obtain⟨i,l,hi,rfl,hll,hwl,hb,hv,h0,hr⟩:=hrel
  by_cases hip:i<n
  ·obtain⟨a,x,rfl,hxk,hxb,hcx⟩:=(hx.upd hr (fun a ha=>hna a ha (by omega))).get (i:=i) (by omega)
   by_cases hx0:x=0
   ·subst hx0
    have hstay:Hid (nv (l.take (i+1+m))=nv (xs.take (i+1))*nv ys):=by
     show _=_
     rw [show i+1+m=i+m+1 from by omega,oM l (i+m) (by rw [hll.out];omega) (h0.out _ (by omega)),hv.out,oM xs i (by rw [hlx.out];omega) hxk.out]
    go_wp2_with fail
    go_roundw
    case rel=>exact⟨i+1,l,by omega,by go_num,hll.out,hwl,hb,hstay.out,fun t ht=>h0.out t (by omega),hr⟩
    case measure=>simp [intOf];omega
   ·have hxz:((x:Int)==0)=false:=by simp;omega
    go_wp2_with fail
    obtain⟨wo,rfl⟩:∃wo:a0,wo=wr:=⟨_,rfl⟩
    go_loopw [25,8] (fun u v wr=>∃(j c:Nat) (l:List Nat),j≤m∧c≤18446744073709551615∧u= AI (j:Int)∧v= AT (c:Int)∧Hid (l.length=n+m)∧Wf l∧Bk wr g 45 (l.map bD)∧
     Hid (nv (l.take (i+m))+WB^(i+j)*c=nv (xs.take i)*nv ys+x*(WB^i*nv (ys.take j)))∧Hid (∀t,i+m≤t→l.getD t 0=0)∧Upd g w wr) (fun u v wr=>m-(intOf u).toNat)
    case atStart=>exact⟨0,0,l,bX _,by omega,rfl,rfl,hll.out,hwl,hb,(show _=_ by rw [hv.out];simp [nv]),h0.out,hr⟩
    case round=>
     obtain⟨j,c,l2,hj,hc,rfl,rfl,hl2,hw2,hb2,hv2,h02,hr2⟩:=hrel
     clear hll hwl hb hv h0 hr hcx
     by_cases hjq:j<m
     ·obtain⟨b,y,rfl,hyk,hyb,hcy⟩:=(hy.upd hr2 (fun a ha=>hnb a ha (by omega))).get (i:=j) (by omega)
      obtain⟨o,hok,aA,hco⟩:=hb2.word hw2 (i:=i+j) (by rw [hl2.out];omega)
      have hfr:=hb2.frozen (i+j)
      go_wp2_with fail
      refine (bits_Mul64 x y hxb hyb _).mono ?_
      rintro e w' ⟨hi',lo,hp,hhb,hlb,rfl,rfl⟩
      obtain⟨s1,d1,hs1,hsb1,hd1,hadd1⟩:=rJ hlb hc
      obtain⟨s2,d2,hs2,hsb2,hd2,hadd2⟩:=rJ aA hsb1
      have hP:x*y≤340282366920938463426481119284349108225:=fV hxb hyb
      have hk1:hi'+d1+d2≤18446744073709551615∧hi'+d1≤18446744073709551615:=by
       have e1:=hp.out
       have e2:=hs1.out
       have e3:=hs2.out
       rw [cQ] at e1 e2 e3
       omega
      obtain⟨hk1,hk2⟩:=hk1
      clear hP
      go_wp2_with fail
      go_roundw
      case rel=>
       refine⟨j+1,hi'+d1+d2,l2.set (i+j) s2,by omega,by omega,by go_num,fG,by show _=_;rw [List.length_set];exact hl2.out,fD hw2 _ (by rw [cQ];omega),by rw [←eS];exact hb2.set _ _,
        KK (k:=i+j) (m:=i+m) G (by omega) (by rw [hl2.out];omega) hv2.out hok.out (by rw [hly.out];omega) hyk.out ?_,fun t ht=>?_,hr2.setCell _ _⟩
       ·have e1:=hp.out
        have e2:=hs1.out
        have e3:=hs2.out
        rw [dC,dC,←e1];omega
       ·rw [getD_set_ne (by omega)];exact h02.out t ht
      case measure=>simp [intOf];omega
     ·obtain rfl:j=m:=by omega
      obtain⟨o,hok,aA,hco⟩:=hb2.word hw2 (i:=i+j) (by rw [hl2.out];omega)
      have hfr:=hb2.frozen (i+j)
      go_wp2_with fail
      go_roundw
      case rel=>
       refine⟨i+1,l2.set (i+j) c,by omega,by go_num,by show _=_;rw [List.length_set];exact hl2.out,fD hw2 _ (by rw [cQ];omega),by rw [←eS];exact hb2.set _ _,?_,fun t ht=>?_,hr2.setCell _ _⟩
       ·show _=_
        rw [show i+1+j=i+j+1 from by omega,wW (by rw [hl2.out];omega),hv2.out,List.take_of_length_le (l:=ys) (i:=j) (by rw [hly.out];omega),dY xs i (by rw [hlx.out];omega),hxk.out,dS,←cW,cY x]
       ·rw [getD_set_ne (by omega)];exact h02.out t (by omega)
      case measure=>simp [intOf];omega
  ·obtain rfl:i=n:=by omega
   go_wp2_with fail
   go_end0
   have h:=hv.out
   rw [List.take_of_length_le (by rw [hll.out];omega),List.take_of_length_le (by rw [hlx.out];omega)] at h
   exact⟨l,rfl,hb,hwl,(show _=_ by rw [hll.out,hlz.out]),h,hr⟩
def zJ (w:a0)(x y:Nat)(e:dI)(w':a0):Prop:=∃k,Hid (k=(wd x).length+(wd y).length)∧NewP w (x*y) k e w'
def FY (N:Nat):Prop:=∀(w:a0) (A B:Option a6) (n cap m cap':Nat) (xs ys:List Nat),Rd w A n cap xs→Rd w B m cap' ys→n+m<N→n+m≤274877906944→
 aR aJ 60 #[By A n cap,By B m cap'] w (zJ w (nv xs) (nv ys))
theorem NewP.rd (hb:Bk w' g 45 (zs.map bD))(hw:Wf zs)(hl:zs.length=n)(hn:n≤1099511627776):Rd w' (some ⟨g,0,none⟩) n n zs:=by
 have:=hb.rd hw (o:=0) (n:=n) (cap:=n) (aI _) (by omega) (by rw [eY];omega)
 rwa [lU,List.take_of_length_le (by omega)] at this
theorem Upd.then_new {a b:a0}(h:Upd g w a)(e:Upd k a b)(hk:w.heap.size≤k):Upd g w b:=
 ⟨⟨e.by_.os.trans h.by_.os,e.by_.tape.trans h.by_.tape,e.by_.output.trans h.by_.output,a7 h.by_.size e.by_.size,
  fun i hi o=>(e.by_.block i (cJ hi h.by_.size) (fun e'=>by have:=iL e';omega)).trans (h.by_.block i hi o)⟩⟩
theorem Rd.drop_some {a:a6}(h:Rd w (some a) n cap xs){l:Nat}(hl:l<n):Rd w (some (a.add l)) (n-l) (cap-l) (xs.drop l):=by
 have o:=h.rv.le
 have:=h.cut (l:=l) (k:=n) (m:=cap) (by omega) (aI _) o (aI _)
 rw [if_neg (by omega),zO,List.take_of_length_le (by rw [h.len];omega)] at this
 exact this
theorem Rd.empty (h:Rd w A n cap xs):Rd w A 0 0 []:=by
 have:=h.take (k:=0) (m:=0) (bX _) (aI _) (bX _)
 simpa using this
def FZ (w:a0)(h r:Nat)(xs:List Nat)(u v:aF)(wc:a0):Prop:=
 ∃A0 A1 c0 c1,u= By A0 h c0∧v= By A1 r c1∧Rd wc A0 h c0 (xs.take h)∧Rd wc A1 r c1 (xs.drop h)∧Ext w wc
theorem KO (IH:FY N)(hz:Bk w g 45 (zs.map bD))(hzz:zs=dL (n+m) 0)(hx:Rd w A n n xs)(hy:Rd w B m m ys)(hna:∀a,A=some a→a.block≠g)(hnb:∀a,B=some a→a.block≠g)(hN:n+m=N)(hN2:N≤274877906944)(hm:24≤m)(hmn:m≤n)(hnm:n<2*m):aR aJ 81 #[By (some ⟨g,0,none⟩) N N,By A n n,By B m m] w (pE g zs (nv xs*nv ys) w):=by
 have HI:=aU IH
 have HZZ:=aU hzz
 clear IH hzz
 have hlx:=aU hx.len
 have hly:=aU hy.len
 obtain⟨hf,hh⟩:∃hf,hf=(n+1)/2:=⟨_,rfl⟩
 have hh1:n≤2*hf:=by omega
 have hh2:2*hf≤n+1:=by omega
 have hh3:((n:Int)+1)/2=(hf:Int):=by omega
 have hNi:N≤n+m:=by omega
 have hNj:n+m≤N:=by omega
 have HN:=aU hN
 clear hh hN
 obtain⟨a,_,rfl,_,_,_⟩:=hx.get (i:=0) (by omega)
 obtain⟨b,_,rfl,_,_,_⟩:=hy.get (i:=0) (by omega)
 go_enter Tryz.func81,Tryz.ntmps81
 go_upto_region 1 with (fail)
 go_cut [7,8] (fun u v wc=>FZ w hf (n-hf) xs u v wc)
 case first=>
  go_wp2_with fail
  go_quiet (fail)
  go_wp2_with fail
  go_meet
  case rel=>exact⟨_,_,_,_,rfl,rfl,(hx.take (k:=hf) (m:=hf) (by omega) (aI _) (by omega)).ext (by repeat (first | exact Ext.refl _ | assumption | apply Ext.drewN | apply Ext.drew | apply Ext.alloc)),(hx.drop_some (l:=hf) (by omega)).ext (by repeat (first | exact Ext.refl _ | assumption | apply Ext.drewN | apply Ext.drew | apply Ext.alloc)),(by repeat (first | exact Ext.refl _ | assumption | apply Ext.drewN | apply Ext.drew | apply Ext.alloc))⟩
 case rest=>
  obtain⟨A0,A1,c0,c1,rfl,rfl,hx0,hx1,hext1⟩:=hcut
  obtain⟨wx,rfl⟩:∃wx:a0,wx=wc:=⟨_,rfl⟩
  go_upto_region 2 with (fail)
  go_cut [9,10] (fun u v wc=>FZ wx hf (m-hf) ys u v wc)
  case first=>
   by_cases hhm:hf=m
   ·subst hhm
    have e0:hf-hf=0:=by omega
    go_wp2_with fail
    go_quiet (fail)
    go_wp2_with fail
    go_meet
    case rel=>
     have hy2:=(hy.ext hext1)
     refine⟨_,some b,_,0,rfl,by rw [e0],(hy2.take (k:=hf) (m:=hf) (by omega) (aI _) (by omega)).ext (by repeat (first | exact Ext.refl _ | assumption | apply Ext.drewN | apply Ext.drew | apply Ext.alloc)),?_,(by repeat (first | exact Ext.refl _ | assumption | apply Ext.drewN | apply Ext.drew | apply Ext.alloc))⟩
     rw [e0,List.drop_eq_nil_of_le (by rw [hly.out];omega)]
     exact hy2.empty.ext (by repeat (first | exact Ext.refl _ | assumption | apply Ext.drewN | apply Ext.drew | apply Ext.alloc))
   ·have hhm2:hf<m:=by omega
    go_wp2_with fail
    go_quiet (fail)
    go_wp2_with fail
    go_meet
    case rel=>
     have hy2:=(hy.ext hext1)
     exact⟨_,_,_,_,rfl,rfl,(hy2.take (k:=hf) (m:=hf) (by omega) (aI _) (by omega)).ext (by repeat (first | exact Ext.refl _ | assumption | apply Ext.drewN | apply Ext.drew | apply Ext.alloc)),(hy2.drop_some (l:=hf) (by omega)).ext (by repeat (first | exact Ext.refl _ | assumption | apply Ext.drewN | apply Ext.drew | apply Ext.alloc)),(by repeat (first | exact Ext.refl _ | assumption | apply Ext.drewN | apply Ext.drew | apply Ext.alloc))⟩
  case rest=>
   obtain⟨B0,B1,d0,d1,rfl,rfl,hy0,hy1,hext2⟩:=hcut
   have hx0':=hx0.ext hext2
   have hx1':=hx1.ext hext2
   have hz':=hz.ext (hext1.trans hext2)
   have hE:=hext1.trans hext2
   clear hx0 hx1 hext1 hext2
   go_wp2_with fail
   refine (HI.out _ _ _ _ _ _ _ _ _ hx0' hy0 (by omega) (by omega)).mono ?_
   rintro e w1 ⟨kl,hkl,gl,zl,rfl,hgl,hbl,hwl,hll,hvl,he1⟩
   have hlb:kl≤2*hf:=by
    rw [hkl.out]
    have h1:=fR hx0'.wf
    have h2:=fR hy0.wf
    rw [hx0'.len] at h1
    rw [hy0.len] at h2
    omega
   go_wp2_with fail
   refine (oQ (NewP.rd hbl hwl hll.out (by omega))).mono ?_
   rintro e w' ⟨tl,htl,rfl,hrl,rfl⟩
   rw [hvl.out] at htl hrl
   go_wp2_with fail
   refine (HI.out _ _ _ _ _ _ _ _ _ (hx1'.ext he1) (hy1.ext he1) (by omega) (by omega)).mono ?_
   rintro e w2 ⟨kh,hkh,gh,zh,rfl,hgh,hbh,hwh,hlh,hvh,he2⟩
   have hhb:kh≤(n-hf)+(m-hf):=by
    rw [hkh.out]
    have h1:=fR hx1'.wf
    have h2:=fR hy1.wf
    rw [hx1'.len] at h1
    rw [hy1.len] at h2
    omega
   go_wp2_with fail
   refine (oQ (NewP.rd hbh hwh hlh.out (by omega))).mono ?_
   rintro e w' ⟨th,hth,rfl,hrh,rfl⟩
   rw [hvh.out] at hth hrh
   have he12:=he1.trans he2
   go_wp2_with fail
   refine (CV (hx0'.ext he12) (by omega) (hx1'.ext he12) (by omega)).mono ?_
   rintro e w3 ⟨g3,z3,rfl,hg3,hb3,hw3,hl3,hv3,he3⟩
   go_wp2_with fail
   refine (CV (hy0.ext (he12.trans he3)) (by omega) (hy1.ext (he12.trans he3)) (by omega)).mono ?_
   rintro e w4 ⟨g4,z4,rfl,hg4,hb4,hw4,hl4,hv4,he4⟩
   have q3:max hf (n-hf)+1=hf+1:=by omega
   have q4:max hf (m-hf)+1=hf+1:=by omega
   rw [q3] at hl3
   rw [q4] at hl4
   rw [q3,q4]
   clear q3 q4
   go_wp2_with fail
   refine (HI.out _ _ _ _ _ _ _ _ _ (NewP.rd (hb3.ext he4) hw3 hl3.out (by omega)) (NewP.rd hb4 hw4 hl4.out (by omega)) (by omega) (by omega)).mono ?_
   rintro e w5 ⟨km,hkm,gm,zm,rfl,hgm,hbm,hwm,hlm,hvm,he5⟩
   have vx:Hid (nv xs=nv (xs.take hf)+WB^hf*nv (xs.drop hf)):=lF xs hf (by rw [hlx.out];omega)
   have vy:Hid (nv ys=nv (ys.take hf)+WB^hf*nv (ys.drop hf)):=lF ys hf (by rw [hly.out];omega)
   have bx:Hid (nv xs*nv ys<WB^N):=by
    show _<_
    have h1:=i5 hx.wf
    have h2:=i5 hy.wf
    rw [hlx.out] at h1
    rw [hly.out] at h2
    rw [←HN.out,eK]
    exact uT h1 h2
   have bl:Hid (nv (xs.take hf)*nv (ys.take hf)<WB^(2*hf)):=by
    show _<_
    have h1:=jI hx.wf hf
    have h2:=jI hy.wf hf
    rw [Nat.two_mul,eK]
    exact uT h1 h2
   rw [hv3.out,hv4.out] at hvm hkm
   generalize nv (xs.take hf)=X0 at*
   generalize nv (xs.drop hf)=X1 at*
   generalize nv (ys.take hf)=Y0 at*
   generalize nv (ys.drop hf)=Y1 at*
   have emid:Hid ((X0+X1)*(Y0+Y1)=X0*Y0+X1*Y1+(X0*Y1+X1*Y0)):=by
    show _=_
    simp only [dS,dC];omega
   have eall:Hid (nv xs*nv ys=X0*Y0+WB^(2*hf)*(X1*Y1)+WB^hf*(X0*Y1+X1*Y0)):=by
    show _=_
    rw [vx.out,vy.out,Nat.two_mul,eK]
    simp only [dS,dC,cW]
    rw [Nat.mul_left_comm X0 (WB^hf) Y1,Nat.mul_left_comm X1 (WB^hf) Y1]
    omega
   have he25:=(he3.trans he4).trans he5
   have sl:tl≤km:=by
    have h1:=i5 hwm
    rw [hlm.out,hvm.out,emid.out] at h1
    rw [htl.out]
    exact jK (by omega)
   have sh:th≤km:=by
    have h1:=i5 hwm
    rw [hlm.out,hvm.out,emid.out] at h1
    rw [hth.out]
    exact jK (by omega)
   have hgl':gl<w1.heap.size:=hbl.lt
   have hgh':gh<w2.heap.size:=hbh.lt
   have s12:=he12.size
   have s2:=he2.size
   have s25:=he25.size
   have s5:=(he3.trans he4).size
   have n1:gl≠gm:=by omega
   have n2:gh≠gm:=by omega
   have hgz:g<w.heap.size:=hz.lt
   have sE:=hE.size
   have n3:g≠gm:=by have:=he12.size;omega
   have n4:g≠gl:=by omega
   have n5:g≠gh:=by have:=he1.size;omega
   have hkmb:km≤549755813888:=by
    rw [hkm.out]
    have h1:=fR hw3
    have h2:=fR hw4
    rw [hl3.out,hv3.out] at h1
    rw [hl4.out,hv4.out] at h2
    omega
   go_wp2_with fail
   refine (CW hbm hwm hlm.out (hrl.ext (he2.trans he25)) (fun a ha _=>by cases ha;exact n1) sl (by omega) (by rw [dQ,hvm.out,emid.out];omega)).mono ?_
   rintro e w6 ⟨z6,rfl,hb6,hw6,hl6,hv6,hu6⟩
   rw [dQ,hvm.out,emid.out] at hv6
   go_wp2_with fail
   refine (CW hb6 hw6 (by rw [hl6.out,hlm.out]) ((hrh.ext he25).upd hu6 (fun a ha=>by cases ha;exact n2)) (fun a ha _=>by cases ha;exact n2) sh (by omega) (by rw [dQ,hv6.out];omega)).mono ?_
   rintro e w7 ⟨z7,rfl,hb7,hw7,hl7,hv7,hu7⟩
   rw [dQ,hv6.out] at hv7
   have hu67:=hu6.trans hu7
   have hz7:Bk w7 g 45 (zs.map bD):=(hz'.ext (he12.trans he25)).upd hu67 n3
   have hrl7:Rd w7 (some ⟨gl,0,none⟩) tl tl (wd (X0*Y0)):=(hrl.ext (he2.trans he25)).upd hu67 (fun a ha=>by cases ha;exact n1)
   have hrh7:Rd w7 (some ⟨gh,0,none⟩) th th (wd (X1*Y1)):=(hrh.ext he25).upd hu67 (fun a ha=>by cases ha;exact n2)
   have hv7':Hid (nv z7=X0*Y1+X1*Y0):=by show _=_;rw [hv7.out];omega
   go_wp2_with ((with_reducible refine cU (some 55) ?_);refine vL G (.tmp 53) (.tmp 54) 39 39 G G G Tryz.underlying39 wB hz7 hrl7.rv (fun _=>rfl) ?fit (uH _) ?_;rotate_left;intro w8 hb8 hu8)
   case fit=>rw [List.length_map,HZZ.out,List.length_replicate];omega
   have hwt:Wf (wd (X0*Y0)):=rL _
   have tlN:tl≤N:=by rw [htl.out];exact jK (o7 (by rw [eall.out];omega) bx.out)
   rw [←o9,List.take_of_length_le (l:=wd (X0*Y0)) (by rw [←htl.out];exact tlN),HZZ.out,wA] at hb8
   obtain⟨hv8,hl8⟩:=CQ (xs:=wd (X0*Y0)) (n:=n+m) (by rw [←htl.out];omega)
   rw [dQ] at hv8
   have hw8:Wf (splice (dL (n+m) 0) 0 (wd (X0*Y0))):=FS (lN _) hwt _
   generalize splice (dL (n+m) 0) 0 (wd (X0*Y0))=z8 at*
   have HV8:=aU hv8
   have HL8:=aU hl8
   clear hv8 hl8
   have hrh8:=hrh7.upd hu8 (fun a ha=>by cases ha;exact fun e=>n5 e.symm)
   have tot2:Hid (X0*Y0+WB^(2*hf)*(X1*Y1)<WB^N):=o7 (by rw [eall.out];omega) bx.out
   have thN:th≤N-2*hf:=by
    rw [hth.out]
    refine jK ?_
    have h1:=tot2.out
    refine Nat.lt_of_mul_lt_mul_left (a:=WB^(2*hf)) ?_
    rw [←eK,show 2*hf+(N-2*hf)=N from by omega]
    omega
   have e2h:2*hf+(N-2*hf)=N:=by omega
   have hadd:=tG (o:=2*hf) (n:=N-2*hf) (cap:=N-2*hf) hb8 hw8 (by rw [HL8.out,HN.out,e2h]) hrh8 (fun a ha _=>by cases ha;exact fun e=>n5 e.symm) thN (by omega) (by omega) (by rw [HV8.out,dQ,e2h];exact tot2.out)
   refine hadd.mono ?_
   clear hadd
   clear e2h
   rintro e w9 ⟨z9,rfl,hb9,hw9,hl9,hv9,hu9⟩
   rw [HV8.out,dQ] at hv9
   have hz79:Bk w9 gm 45 (z7.map bD):=(hb7.upd hu8 (fun e=>n3 e.symm)).upd hu9 (fun e=>n3 e.symm)
   have hrm:Rd w9 (some ⟨gm,0,none⟩) km km z7:=NewP.rd hz79 hw7 (by rw [hl7.out,hl6.out,hlm.out]) (by omega)
   go_wp2_with fail
   have tot3:Hid (nv z9+WB^hf*nv z7<WB^(hf+(N-hf))):=by
    show _<_
    rw [hv9.out,hv7'.out,show hf+(N-hf)=N from by omega,←eall.out];exact bx.out
   have tmN:(wd (nv z7)).length≤N-hf:=by
    refine jK ?_
    have h1:=tot3.out
    refine Nat.lt_of_mul_lt_mul_left (a:=WB^hf) ?_
    rw [←eK]
    omega
   have hl9':Hid (z9.length=hf+(N-hf)):=by show _=_;rw [hl9.out,HL8.out,HN.out];omega
   have b9:hf≤1099511627776:=by omega
   have b10:N-hf≤1099511627776:=by omega
   have fin:∀z10 w10,Wf z10→Bk w10 g 45 (z10.map bD)→z10.length=z9.length→nv z10=nv z9+WB^hf*nv (wd (nv z7))→Upd g w9 w10→pE g zs (nv xs*nv ys) w (.returned (.tuple #[])) w10:=by
    intro z10 w10 h1 h2 h3 h4 h5
    refine⟨z10,rfl,h2,h1,(show _=_ by rw [h3,hl9.out,HL8.out,HZZ.out,List.length_replicate]),?_,?_⟩
    ·show _=_
     rw [h4,dQ,hv9.out,hv7'.out,←eall.out]
    ·have u5:Upd g w w5:=Upd.of_ext (hE.trans (he12.trans he25))
     have u7:Upd g w w7:=u5.then_new hu67 (by omega)
     exact ((u7.trans hu8).trans hu9).trans h5
   have FIN:=aU fin
   clear fin
   go_region_with (first
    | (go_at_call 78;refine (oQ (hrm.ext (by repeat (first | exact Ext.refl _ | assumption | apply Ext.drewN | apply Ext.drew | apply Ext.alloc)))).mono ?_;rintro e w' ⟨tm,htm,rfl,hrm2,rfl⟩)
    | (go_at_call 80;refine (tG (o:=hf) (n:=N-hf) (hb9.ext (by repeat (first | exact Ext.refl _ | assumption | apply Ext.drewN | apply Ext.drew | apply Ext.alloc))) hw9 hl9'.out hrm2 (fun a ha _=>by cases ha;exact fun e=>n3 e.symm) (by rw [htm.out];exact tmN) b10 b9 (by rw [dQ];exact tot3.out)).mono ?_;rintro e w10 ⟨z10,rfl,hb10,hw10,hl10,hv10,hu10⟩))
   all_goals
    go_end0
    exact FIN.out z10 _ hw10 (by first | exact hb10 | exact hb10.drew | exact hb10.drewN _) hl10.out hv10.out (by first | exact (Upd.of_ext (by repeat (first | exact Ext.refl _ | assumption | apply Ext.drewN | apply Ext.drew | apply Ext.alloc))).trans hu10 | exact ((Upd.of_ext (by repeat (first | exact Ext.refl _ | assumption | apply Ext.drewN | apply Ext.drew | apply Ext.alloc))).trans hu10).drew)
theorem JQ (N:Nat):FY N:=by
 induction N with
 | zero=>intro w A B n cap m cap' xs ys _ _ h;omega
 | succ N IH=>
  intro w A B n cap m cap' xs ys hx hy hN hN2
  have HI:=aU IH
  clear IH
  go_enter Tryz.func60,Tryz.ntmps60
  go_wp2_with fail
  refine (oQ hx).mono ?_
  rintro e w' ⟨p,hp,rfl,hx1,rfl⟩
  go_wp2_with fail
  refine (oQ hy).mono ?_
  rintro e w' ⟨q,hq,rfl,hy1,rfl⟩
  have hpn:p≤n:=by rw [hp.out];have:=fR hx.wf;rw [hx.len] at this;exact this
  have hqm:q≤m:=by rw [hq.out];have:=fR hy.wf;rw [hy.len] at this;exact this
  go_upto_if 16 with (fail)
  go_cut [0,1] (fun u v wc=>∃A B p q xs' ys',u= By A p p∧v= By B q q∧Rd w A p p xs'∧Rd w B q q ys'∧Hid (nv xs'*nv ys'=nv xs*nv ys)∧q≤p∧p+q≤n+m∧Hid (p+q=(wd (nv xs)).length+(wd (nv ys)).length)∧w=wc)
  case first=>
   by_cases hpq:p<q
   ·go_wp2_with fail
    go_meet
    case rel=>exact⟨B,A,q,p,_,_,rfl,rfl,hy1,hx1,(show _=_ by rw [dQ,dQ,cY]),by omega,by omega,(show _=_ by rw [←hp.out,←hq.out];omega),rfl⟩
   ·go_wp2_with fail
    go_meet
    case rel=>exact⟨A,B,p,q,_,_,rfl,rfl,hx1,hy1,(show _=_ by rw [dQ,dQ]),by omega,by omega,(show _=_ by rw [←hp.out,←hq.out]),rfl⟩
  case rest=>
   clear hx1 hy1 hp hq hpn hqm hx hy
   obtain⟨A,B,p,q,xs',ys',rfl,rfl,hx,hy,hXY,hqp,hpq,hK,rfl⟩:=hcut
   have hlx:=aU hx.len
   have hly:=aU hy.len
   have hmk:=lD (P:=aJ) Tryz.underlying39 lH G (by decide) ((p:Int)+(q:Int)) (by omega) (by omega)
   have et:((p:Int)+(q:Int)).toNat=p+q:=by omega
   rw [et] at hmk
   clear et
   obtain⟨g,hg⟩:∃g,w.heap.size=g:=⟨_,rfl⟩
   obtain⟨wa,hwa⟩:∃wa,w.alloc (.cells (zc (.int .u64 0) (p+q)) 45)=wa:=⟨_,rfl⟩
   have hbk:Bk wa g 45 ((dL (p+q) 0).map bD):=by
    rw [←hwa,←hg,←mB];exact Bk.new' _ _ _
   have hea:Ext w wa:=by rw [←hwa];exact (Ext.refl w).alloc _
   have hgs:w.heap.size≤g:=by rw [hg];exact aI _
   have hna:∀a,A=some a→0<p→a.block≠g:=fun a ha hp=>by have:=hx.rv.blk a ha (by have:=hx.rv.le;omega);omega
   have hnb:∀a,B=some a→0<q→a.block≠g:=fun a ha hp=>by have:=hy.rv.blk a ha (by have:=hy.rv.le;omega);omega
   have HNA:=aU hna
   have HNB:=aU hnb
   have HG:=aU hg
   have HWA:=aU hwa
   clear hna hnb hg hwa
   go_upto_region 6 with (fail)
   rw [HG.out,HWA.out]
   clear hmk HG HWA
   have fin:∀zs' w',Bk w' g 45 (zs'.map bD)→Wf zs'→zs'.length=p+q→nv zs'=nv xs'*nv ys'→Upd g wa w'→zJ w (nv xs) (nv ys) (.returned (By (some ⟨g,0,none⟩) (p+q) (p+q))) w':=by
    intro zs' w' h1 h2 h3 h4 h5
    exact⟨_,hK.out,g,zs',rfl,hgs,h1,h2,h3,by show _=_;rw [h4,hXY.out],h5.ext hea hgs⟩
   have FIN:=aU fin
   clear fin
   by_cases h24:q<24
   ·go_wp2_with fail
    refine (KM hbk G G (hx.ext hea) (hy.ext hea) HNA.out HNB.out (by omega) (by omega)).mono ?_
    rintro e w1 ⟨z1,rfl,hb1,hw1,hl1,hv1,hu1⟩
    go_wp2_with fail
    go_ret
    exact FIN.out z1 w1 hb1 hw1 (by rw [hl1.out,List.length_replicate]) hv1.out hu1
   ·have hb24:decide ((q:Int)<24)=false:=by simp;omega
    by_cases h2q:p<2*q
    ·go_wp2_with fail
     refine (KO (N:=p+q) (fun w A B n cap m cap' xs ys h1 h2 h3 h4=>HI.out w A B n cap m cap' xs ys h1 h2 (by omega) h4) hbk G (hx.ext hea) (hy.ext hea) (fun a ha=>HNA.out a ha (by omega)) (fun a ha=>HNB.out a ha (by omega)) G (by omega) (by omega) hqp h2q).mono ?_
     rintro e w1 ⟨z1,rfl,hb1,hw1,hl1,hv1,hu1⟩
     go_wp2_with fail
     go_ret
     exact FIN.out z1 w1 hb1 hw1 (by rw [hl1.out,List.length_replicate]) hv1.out hu1
    ·have hb2q:decide (2*(q:Int)≤(p:Int))=true:=by simp;omega
     obtain⟨a,_,rfl,_,_,_⟩:=hx.get (i:=0) (by omega)
     go_wp2_with fail
     go_loopw [6] (fun u wr=>∃(i:Nat) (l:List Nat),i≤p+q∧u= AI (i:Int)∧Hid (l.length=p+q)∧Wf l∧Bk wr g 45 (l.map bD)∧Hid (nv l=nv (xs'.take i)*nv ys')∧Upd g wa wr) (fun u wr=>p+q-(intOf u).toNat)
     case atStart=>exact⟨0,_,bX _,rfl,List.length_replicate,lN _,hbk,(show _=_ by rw [wV];simp [nv]),Upd.refl _ _⟩
     case round=>
      obtain⟨i,l,hi,rfl,hll,hwl,hb,hv,hr⟩:=hrel
      clear hbk
      by_cases hip:i<p
      ·obtain⟨e,he⟩:∃e,e=min (i+q) p:=⟨_,rfl⟩
       have he1:i<e:=by omega
       have he2:e≤p:=by omega
       have he3:e≤i+q:=by omega
       have hmin:min ((i:Int)+(q:Int)) (p:Int)=(e:Int):=by omega
       have HE:=aU he
       clear he
       have hxr:=(hx.ext hea).upd hr (fun a ha=>HNA.out a ha (by omega))
       have hyr:=(hy.ext hea).upd hr (fun a ha=>HNB.out a ha (by omega))
       have hcut:=hxr.cut (l:=i) (k:=e) (m:=e) (by omega) he2 (aI _) he2
       rw [if_neg (by omega),zO] at hcut
       have hnext:Hid (nv (xs'.take (i+q))*nv ys'=nv l+WB^i*(nv ((xs'.take e).drop i)*nv ys')):=by
        show _=_
        have e1:xs'.take (i+q)=xs'.take e:=by
         rw [HE.out]
         rcases Nat.le_total (i+q) p with h | h
         ·rw [iD h]
         ·rw [Nat.min_eq_right h,List.take_of_length_le (by rw [hlx.out];omega),List.take_of_length_le (by rw [hlx.out];omega)]
        have e2:=lF (xs'.take e) i (by rw [dH,hlx.out];omega)
        rw [List.take_take,iD (by omega)] at e2
        rw [e1,e2,dS,hv.out,cW]
       have hbnd:Hid (nv l+WB^i*(nv ((xs'.take e).drop i)*nv ys')<WB^(i+(p+q-i))):=by
        show _<_
        rw [←hnext.out,show i+(p+q-i)=p+q from by omega,eK]
        have h1:=i5 (nW hx.wf (i+q))
        have h2:=i5 hy.wf
        rw [hly.out] at h2
        have h3:WB^(xs'.take (i+q)).length≤WB^p:=lQ eQ (by rw [dH,hlx.out];omega)
        exact uT (cJ h1 h3) h2
       have htm:(wd (nv ((xs'.take e).drop i)*nv ys')).length≤p+q-i:=by
        refine jK ?_
        have h1:=hbnd.out
        refine Nat.lt_of_mul_lt_mul_left (a:=WB^i) ?_
        rw [←eK]
        omega
       have hprod:nv ((xs'.take e).drop i)*nv ys'<WB^(p+q):=by
        have:=hbnd.out
        have h1:0<WB^i:=jT eQ
        have h2:=Nat.le_mul_of_pos_left (nv ((xs'.take e).drop i)*nv ys') h1
        rw [show i+(p+q-i)=p+q from by omega] at this
        omega
       have HP:=aU hprod
       clear hprod
       have b1:i≤1099511627776:=by omega
       have b2:p+q-i≤1099511627776:=by omega
       have b3:e-i+q<N:=by omega
       have b4:e-i+q≤274877906944:=by omega
       have hgr:g<wr.heap.size:=hb.lt
       go_wp2_with fail
       have hk1b:(wd (nv ((xs'.take e).drop i))).length+(wd (nv ys')).length≤e-i+q:=by
        have h1:=fR hcut.wf
        have h2:=fR hy.wf
        rw [hcut.len] at h1
        rw [hy.len] at h2
        omega
       have htm':(wd (nv (wd (nv ((xs'.take e).drop i)*nv ys')))).length≤p+q-i:=by rw [dQ];exact htm
       have hbnd':Hid (nv l+WB^i*nv (wd (nv ((xs'.take e).drop i)*nv ys'))<WB^(i+(p+q-i))):=by show _<_;rw [dQ];exact hbnd.out
       have hll':Hid (l.length=i+(p+q-i)):=by show _=_;rw [hll.out];omega
       have hgwr:g<wr.heap.size:=hb.lt
       go_region_with (first
        | (go_at_call 60;refine (HI.out _ _ _ _ _ _ _ _ _ (hcut.ext (by repeat (first | exact Ext.refl _ | assumption | apply Ext.drewN | apply Ext.drew | apply Ext.alloc))) (hyr.ext (by repeat (first | exact Ext.refl _ | assumption | apply Ext.drewN | apply Ext.drew | apply Ext.alloc))) b3 b4).mono ?_;rintro er w1 ⟨k1,hk1,g1,z1,rfl,hg1,hb1,hw1,hl1,hv1,hx1⟩;have hr1:=NewP.rd hb1 hw1 hl1.out (by rw [hk1.out];omega);have hne1:g1≠g:=(by have h:wr.heap.size≤g1:=hg1;omega);have hx1':Ext wr w1:=Ext.trans (by repeat (first | exact Ext.refl _ | assumption | apply Ext.drewN | apply Ext.drew | apply Ext.alloc)) hx1)
        | (go_at_call 78;refine (oQ (hr1.ext (by repeat (first | exact Ext.refl _ | assumption | apply Ext.drewN | apply Ext.drew | apply Ext.alloc))) (hl:=(by rw [hk1.out];omega))).mono ?_;rintro er w' ⟨tm,htm2,rfl,hrm2,rfl⟩;rw [hv1.out] at htm2 hrm2)
        | (go_at_call 80;refine (tG (o:=i) (n:=p+q-i) (hb.ext hx1') hwl hll'.out hrm2 (fun a ha _=>by cases ha;exact hne1) (by rw [htm2.out];exact htm) b2 b1 hbnd'.out).mono ?_;rintro er w10 ⟨z10,rfl,hb10,hw10,hl10,hv10,hu10⟩))
       all_goals
        go_wp2_with fail
        go_roundw
        case rel=>
         refine⟨i+q,z10,by omega,by go_num,(show _=_ by rw [hl10.out,hll.out]),hw10,by first | exact hb10 | exact hb10.drew | exact hb10.drewN _,?_,?_⟩
         ·show _=_
          rw [hv10.out,dQ];exact hnext.out.symm
         ·have u1:Upd g wa w10:=(hr.then_ext hx1').trans (Upd.trans (Upd.of_ext (by repeat (first | exact Ext.refl _ | assumption | apply Ext.drewN | apply Ext.drew | apply Ext.alloc))) hu10)
          first | exact u1 | exact u1.drew | exact u1.drewN _
        case measure=>simp [intOf];omega
      ·have hfull:Hid (nv l=nv xs'*nv ys'):=by
        show _=_
        rw [hv.out,List.take_of_length_le (by rw [hlx.out];omega)]
       go_wp2_with fail
       go_ret
       exact FIN.out l _ hb hwl hll.out hfull.out hr
theorem KN (hx:Rd w A n cap xs)(hy:Rd w B m cap' ys)(hN:n+m≤274877906944):aR aJ 60 #[By A n cap,By B m cap'] w (zJ w (nv xs) (nv ys)):=JQ (n+m+1) w A B n cap m cap' xs ys hx hy (by omega) hN
theorem KL (hx:Rd w A n cap xs)(hy:Rd w B m cap' ys)(hN:n+m≤274877906944):aR aJ 42 #[By A n cap,By B m cap'] w (mO w (nv xs*nv ys)):=by
 go_enter Tryz.func42,Tryz.ntmps42
 go_wp2_with fail
 refine (KN hx hy hN).mono ?_
 rintro e w1 ⟨k1,hk1,g1,z1,rfl,hg1,hb1,hw1,hl1,hv1,hx1⟩
 have hk1b:k1≤n+m:=by
  rw [hk1.out]
  have h1:=fR hx.wf
  have h2:=fR hy.wf
  rw [hx.len] at h1
  rw [hy.len] at h2
  omega
 go_wp2_with fail
 refine (iH (NewP.rd hb1 hw1 hl1.out (by omega))).mono ?_
 rintro e w2 ⟨A2,n2,c2,rfl,hn2,hr2,ho2,hx2⟩
 go_wp2_with fail
 go_ret
 rw [hv1.out] at hn2 hr2 ho2
 exact⟨A2,n2,c2,rfl,hn2,hr2,ho2.mono hx1.size,hx1.trans hx2⟩
theorem Rd.one (w:a0)(hx:x≤18446744073709551615):Rd (w.alloc (.cells #[AT (x:Int)] 45)) (some ⟨w.heap.size,0,none⟩) 1 1 [x]:=
 ⟨Rv.one w 45 _,R3 (by rw [cQ];omega)⟩
theorem Own.word (h:Own w base 45 1 A n cap (xs.map bD))(hw:Wf xs)(hi:i<n):∃g x,A=some ⟨g,0,none⟩∧base≤g∧Hid (xs.getD i 0=x)∧x≤18446744073709551615∧w.cell? ⟨g,i,none⟩=some (AT (x:Int))∧w.frozen? ⟨g,i,none⟩=false∧
   ∀u:Nat,Own (w.setCell ⟨g,i,none⟩ (AT (u:Int))) base 45 1 (some ⟨g,0,none⟩) n cap ((xs.set i u).map bD):=by
 have U:xs.length=n:=by simpa using h.rv.len
 rcases h with⟨rfl,rfl,rfl,_⟩ | ⟨g,cs,rfl,hb,o,hn,hm,hl,J⟩
 ·omega
 ·have H:=zE hw i
  have I:i<cs.length:=by omega
  refine⟨g,_,rfl,hb,rfl,by rw [cQ] at H;omega,?_,o.frozen i,fun u=>?_⟩
  ·rw [o.cell I]
   have:cs.getD i undef=(cs.take (n*1)).getD i undef:=by
    simp only [bO,iN]
    rw [if_pos (by omega)]
   rw [this,J]
   simp [bO,pM,d8 (show i<xs.length by omega)]
  ·refine Own.mk_ hb (o.set i _) hn hm (by rw [List.length_set];exact hl) ?_
   rw [←eS,←J,List.take_set]
def R6 (w:a0)(q r:Nat)(e:dI)(w':a0):Prop:=
 ∃A n cap r',e= .returned (.tuple #[By A n cap,AT (r':Nat),AI 0])∧Hid (r'=r)∧r'≤18446744073709551615∧Hid (n=(wd q).length)∧Rd w' A n cap (wd q)∧Own w' w.heap.size 45 1 A n cap ((wd q).map bD)∧Ext w w'
theorem GM {rest r' v:Nat}(hk:k<l.length)(h:WB^(k+1)*nv (l.drop (k+1))*v+WB^(k+1)*rest+nv (l.take (k+1))=V)(hx:l.getD k 0=x)(hs:rest*WB+x=d*v+r'):WB^k*nv ((l.set k d).drop k)*v+WB^k*r'+nv ((l.set k d).take k)=V:=by
 have H:(l.set k d).take k=l.take k:=by rw [List.take_set_of_le (aI k)]
 have J:(l.set k d).drop k=d::l.drop (k+1):=by
  rw [zW (by rw [List.length_set];exact hk)]
  congr 1
  ·simp
  ·rw [List.drop_set_of_lt (by omega)]
 rw [H,J,mF,←h,dY l k hk,hx,eW]
 have I:WB^k*(rest*WB+x)=WB^k*(d*v+r'):=by rw [hs]
 have U:WB^k*(d+WB*nv (l.drop (k+1)))*v=WB^k*WB*nv (l.drop (k+1))*v+WB^k*(d*v):=by
  rw [dC,dS,Nat.add_comm,←cW (WB^k) WB,cW (WB^k) d]
 have o:WB^k*WB*rest=WB^k*(rest*WB):=by rw [cW,cY WB rest]
 rw [U,o]
 simp only [dC] at I
 omega
theorem PD (hx:Rd w A n cap xs)(hl:n≤1099511627775){v:Nat}(hv0:v≠0)(hvb:v≤18446744073709551615):aR aJ 95 #[By A n cap,AT (v:Int)] w (R6 w (nv xs/v) (nv xs%v)):=by
 have h0:((v:Int)==0)=false:=by simp;omega
 go_enter Tryz.func95,Tryz.ntmps95
 go_wp2_with fail
 refine (iH hx).mono ?_
 rintro e w1 ⟨A1,n1,c1,rfl,hn1,hr1,ho1,hx1⟩
 have hn1b:n1≤n:=by
  have:=fR hx.wf
  rw [hn1.out,←hx.len];exact this
 clear h0
 have h0:((v:Int)==0)=false:=by simp;omega
 go_wp2_with fail
 obtain⟨l0,hl0⟩:∃l0,wd (nv xs)=l0:=⟨_,rfl⟩
 have hnl0:Hid (nv l0=nv xs):=(show _=_ by rw [←hl0,dQ])
 rw [hl0] at hr1 ho1
 have hll0:Hid (l0.length=n1):=hr1.len
 have hwl0:=hr1.wf
 clear hr1 hl0
 go_loopw [9,8] (fun a b wr=>∃(k r:Nat) (l:List Nat),k≤n1∧r<v∧a= AI ((k:Int)-1)∧b= AT (r:Int)∧Hid (l.length=n1)∧Wf l∧Own wr w.heap.size 45 1 A1 n1 c1 (l.map bD)∧
  Hid (WB^k*nv (l.drop k)*v+WB^k*r+nv (l.take k)=nv xs)∧Ext w wr) (fun a b wr=>(intOf a+1).toNat)
 case atStart=>exact⟨n1,0,l0,aI _,by omega,by go_num,rfl,hll0,hwl0,ho1,(show _=_ by rw [List.drop_of_length_le (by rw [hll0.out];exact aI _),List.take_of_length_le (by rw [hll0.out];exact aI _),hnl0.out];simp [nv]),hx1⟩
 case round=>
  obtain⟨k,r,l,hk,hr,rfl,rfl,hll,hwl,ho,hV,hxr⟩:=hrel
  clear hll0 hwl0 ho1 hnl0
  by_cases hk0:0<k
  ·obtain⟨k,rfl⟩:∃j,k=j+1:=⟨k-1,by omega⟩
   obtain⟨g,x,rfl,hg,hxk,hxb,hc,hfr,hset⟩:=ho.word hwl (i:=k) (by omega)
   have ek:((k+1:Nat):Int)-1=(k:Int):=by omega
   rw [ek]
   go_wp2_with fail
   refine (FH hr hxb hvb _).mono ?_
   rintro e w2 ⟨d,r',hd,hr',hdb,hrv,rfl,m2,hm2⟩
   have hx2:Ext wr w2:=by rw [hm2];exact (Ext.refl wr).drewN m2
   clear hm2
   have ho2:=ho.ext hx2
   obtain⟨g',x',hg',_,_,_,hc2,hfr2,hset2⟩:=ho2.word hwl (i:=k) (by omega)
   cases hg'
   go_wp2_with fail
   go_roundw
   case rel=>
    refine⟨k,r',l.set k d,by omega,hrv,rfl,rfl,(show _=_ by rw [List.length_set];exact hll.out),fD hwl k (by rw [cQ];omega),hset2 d,?_,(hxr.trans hx2).setCell hg _⟩
    refine GM (by rw [hll.out];omega) hV.out hxk.out ?_
    rw [hd.out,hr'.out,cY _ v];exact (lS _ _).symm
   case measure=>simp [intOf]
  ·obtain rfl:k=0:=by omega
   have hVl:nv l*v+r=nv xs:=by simpa [nv] using hV.out
   have hq:nv l=nv xs/v:=by rw [←hVl,cY,lR (by omega),gZ hr];rfl
   have hrr:Hid (r=nv xs%v):=(show _=_ by rw [←hVl,cY,rZ,gP hr])
   have HQ:=aU hq
   clear hq hVl
   have ek:((0:Nat):Int)-1= -1:=rfl
   rw [ek]
   go_wp2_with fail
   refine (iH (ho.rd hwl)).mono ?_
   rintro e w2 ⟨A2,n2,c2,rfl,hn2,hr2,ho2,hx2⟩
   rw [HQ.out] at hn2 hr2 ho2
   go_wp2_with fail
   go_ret3
   exact⟨A2,n2,c2,r,rfl,hrr,by omega,hn2,hr2,ho2.mono hxr.size,hxr.trans hx2⟩
def RE (w:a0)(v n:Nat)(e:dI)(w':a0):Prop:=
 ∃g zs,e= .returned (By (some ⟨g,0,none⟩) n n)∧w.heap.size≤g∧Bk w' g 45 (zs.map bD)∧Wf zs∧Hid (zs.length=n)∧Hid (nv zs=v)∧Ext w w'
theorem IU (hs:s<64):x*2^s%18446744073709551616=(x%2^(64-s))*2^s∧x*2^s=x*2^s%18446744073709551616+WB*(x/2^(64-s)):=by
 have e:18446744073709551616=2^(64-s)*2^s:=by rw [←eK,jS (by omega)]
 have h:x*2^s%18446744073709551616=(x%2^(64-s))*2^s:=by rw [e,uR]
 refine⟨h,?_⟩
 rw [h,cQ,e]
 have o:=mV x (2^(64-s))
 conv=>lhs;rw [←o]
 rw [dS,cW,cY (x/2^(64-s)),←cW]
theorem IW {r30 r32:Nat}(hs:s<64)(hx:xs.getD i 0=x)(hi:i<l.length)(hc:c<2^s)(h30:r30=x*2^s%18446744073709551616)(h32:r32=r30||| c)(hd:d=x/2^(64-s))(h:nv (l.take i)+WB^i*c=nv (xs.take i)*2^s):nv ((l.set i r32).take (i+1))+WB^(i+1)*d=nv (xs.take (i+1))*2^s:=by
 obtain⟨H,J⟩:=IU (x:=x) hs
 have I:r32=r30+c:=by rw [h32,h30,H,wR hc]
 have U:nv (xs.take (i+1))=nv (xs.take i)+WB^i*x:=by
  by_cases o:i<xs.length
  ·rw [dY xs i o,hx]
  ·have:x=0:=by rw [←hx];simp [bO,mX (show xs.length≤i by omega)]
   rw [this,List.take_of_length_le (by omega),List.take_of_length_le (by omega)];simp
 rw [wW hi,U,dS,←h,I,hd,eW,cW (WB^i) WB,cW (WB^i) x,J,←h30]
 simp only [dC]
 omega
theorem IX (hx:x≤18446744073709551615)(hs:s<64):x/2^(64-s)<2^s:=by
 refine s8 ?_
 rw [←eK,jS (by omega)]
 omega
theorem EL (hx:Rd w A m cap xs)(_hl:m≤1099511627775)(hs:s<64)(hn:n≤1099511627776)(hmn:m≤n)(hfit:nv xs*2^s<WB^n):aR aJ 111 #[By A m cap,AT (s:Int),AI (n:Int)] w (RE w (nv xs*2^s) n):=by
 have hlx:=aU hx.len
 have HF:=aU hfit
 clear hfit
 have hsi:(s:Int)≤63:=by omega
 have hmk:=lD (P:=aJ) Tryz.underlying39 lH G (by decide) (n:Int) (by omega) (by omega)
 rw [jV] at hmk
 go_enter Tryz.func111,Tryz.ntmps111
 go_wp2_with fail
 clear hmk
 obtain⟨g,hg⟩:∃g,w.heap.size=g:=⟨_,rfl⟩
 rw [hg]
 obtain⟨wa,hwa⟩:∃wa,w.alloc (.cells (zc (.int .u64 0) n) 45)=wa:=⟨_,rfl⟩
 rw [hwa]
 have hbk:Bk wa g 45 ((dL n 0).map bD):=by
  rw [←hwa,←hg,←mB];exact Bk.new' _ _ _
 have hea:Ext w wa:=by rw [←hwa];exact (Ext.refl w).alloc _
 have hgs:w.heap.size≤g:=by rw [hg];exact aI _
 clear hg hwa
 go_loopw [15,8] (fun u v wr=>∃(i c:Nat) (l:List Nat),i≤n∧c≤18446744073709551615∧Hid (c<2^s)∧u= AI (i:Int)∧v= AT (c:Int)∧Hid (l.length=n)∧Wf l∧Bk wr g 45 (l.map bD)∧
  Hid (nv (l.take i)+WB^i*c=nv (xs.take i)*2^s)∧Ext w wr) (fun u v wr=>n-(intOf u).toNat)
 case atStart=>exact⟨0,0,_,bX _,bX _,kV s,rfl,rfl,List.length_replicate,lN _,hbk,by simp [Hid,nv],hea⟩
 case round=>
  obtain⟨i,c,l,hi,hcb,hc,rfl,rfl,hll,hwl,hb,hv,hr⟩:=hrel
  clear hbk hea
  by_cases hin:i<n
  ·obtain⟨o,ho,_,hco⟩:=hb.word hwl (i:=i) (by rw [hll.out];omega)
   have hfr:=hb.frozen i
   have key:∀x r32 d r30:Nat,xs.getD i 0=x→r30=x*2^s%18446744073709551616→r32=r30||| c→d=x/2^(64-s)→r32≤18446744073709551615→x≤18446744073709551615→∀w2,Upd g wr w2→Bk w2 g 45 ((l.set i r32).map bD)→Ext w w2→
     ∃(j c:Nat) (l:List Nat),j≤n∧c≤18446744073709551615∧Hid (c<2^s)∧kU .i64 ((i:Int)+1)= AI (j:Int)∧kU .u64 (d:Int)= AT (c:Int)∧Hid (l.length=n)∧Wf l∧Bk w2 g 45 (l.map bD)∧
      Hid (nv (l.take j)+WB^j*c=nv (xs.take j)*2^s)∧Ext w w2:=by
    intro x r32 d r30 h1 h2 h3 h4 h5 h6 w2 hu hb2 he
    have h7:=IX h6 hs
    rw [←h4] at h7
    have h8:2^s≤2^63:=lQ (by omega) (by omega)
    exact⟨i+1,d,l.set i r32,by omega,by omega,h7,rfl,rfl,(show _=_ by rw [List.length_set];exact hll.out),fD hwl i (by rw [cQ];omega),hb2,IW hs h1 (by rw [hll.out];omega) hc.out h2 h3 h4 hv.out,he⟩
   have KEY:=aU key
   clear key
   have hs64:s≤64:=by omega
   by_cases him:i<m
   ·obtain⟨a,x,rfl,hxk,hxb,hcx⟩:=(hx.ext hr).get (i:=i) (by omega)
    by_cases hs0:0<s
    ·go_wp2_with (first
      | ((with_reducible refine cU (some 30) ?_);refine dE rfl rfl rfl rfl rfl (nD hs64) ?_;intro r30 h30 hb30)
      | ((with_reducible refine cU (some 32) ?_);refine dE rfl rfl rfl rfl rfl (pT hb30 hcb) ?_ (hf:=(by have:=mU (n:=64) (x:=r30) (y:=c) (by omega) (by omega);omega));intro r32 h32 hb32)
      | ((with_reducible refine cU (some 38) ?_);refine dE rfl rfl rfl rfl rfl (nC (x:=64) (y:=s) (by omega)) ?_;intro r38 h38 hb38;obtain rfl:r38=64-s:=(by have:=h38.out;omega))
      | ((with_reducible refine cU (some 39) ?_);refine dE rfl rfl rfl rfl rfl (m7 (s:=64-s) (by omega)) ?_ (hf:=(by have:=iM x (2^(64-s));omega));intro d hd hdb))
     go_roundw
     case rel=>exact KEY.out x r32 d r30 hxk.out h30.out h32.out hd.out hb32 hxb _ ((Upd.refl _ _).setCell _ _) (by rw [←eS];exact hb.set _ _) (hr.setCell hgs _)
     case measure=>simp [intOf];omega
    ·go_wp2_with (first
      | ((with_reducible refine cU (some 30) ?_);refine dE rfl rfl rfl rfl rfl (nD hs64) ?_;intro r30 h30 hb30)
      | ((with_reducible refine cU (some 32) ?_);refine dE rfl rfl rfl rfl rfl (pT hb30 hcb) ?_ (hf:=(by have:=mU (n:=64) (x:=r30) (y:=c) (by omega) (by omega);omega));intro r32 h32 hb32))
     go_roundw
     case rel=>exact KEY.out x r32 0 r30 hxk.out h30.out h32.out (by rw [show s=0 from by omega,gZ (by omega)]) hb32 hxb _ ((Upd.refl _ _).setCell _ _) (by rw [←eS];exact hb.set _ _) (hr.setCell hgs _)
     case measure=>simp [intOf];omega
   ·have hx0:Hid (xs.getD i 0=0):=by
     show _=_
     rw [bO,mX (by rw [hlx.out];omega)];rfl
    by_cases hs0:0<s
    ·go_wp2_with (first
      | ((with_reducible refine cU (some 30) ?_);refine dE rfl rfl rfl rfl rfl (nD (x:=0) hs64) ?_;intro r30 h30 hb30)
      | ((with_reducible refine cU (some 32) ?_);refine dE rfl rfl rfl rfl rfl (pT hb30 hcb) ?_ (hf:=(by have:=mU (n:=64) (x:=r30) (y:=c) (by omega) (by omega);omega));intro r32 h32 hb32)
      | ((with_reducible refine cU (some 38) ?_);refine dE rfl rfl rfl rfl rfl (nC (x:=64) (y:=s) (by omega)) ?_;intro r38 h38 hb38;obtain rfl:r38=64-s:=(by have:=h38.out;omega))
      | ((with_reducible refine cU (some 39) ?_);refine dE rfl rfl rfl rfl rfl (m7 (x:=0) (s:=64-s) (by omega)) ?_ (hf:=(by have:=iM 0 (2^(64-s));omega));intro d hd hdb))
     go_roundw
     case rel=>exact KEY.out 0 r32 d r30 hx0.out h30.out h32.out hd.out hb32 (by omega) _ ((Upd.refl _ _).setCell _ _) (by rw [←eS];exact hb.set _ _) (hr.setCell hgs _)
     case measure=>simp [intOf];omega
    ·go_wp2_with (first
      | ((with_reducible refine cU (some 30) ?_);refine dE rfl rfl rfl rfl rfl (nD (x:=0) hs64) ?_;intro r30 h30 hb30)
      | ((with_reducible refine cU (some 32) ?_);refine dE rfl rfl rfl rfl rfl (pT hb30 hcb) ?_ (hf:=(by have:=mU (n:=64) (x:=r30) (y:=c) (by omega) (by omega);omega));intro r32 h32 hb32))
     go_roundw
     case rel=>exact KEY.out 0 r32 0 r30 hx0.out h30.out h32.out (by simp) hb32 (by omega) _ ((Upd.refl _ _).setCell _ _) (by rw [←eS];exact hb.set _ _) (hr.setCell hgs _)
     case measure=>simp [intOf];omega
  ·obtain rfl:i=n:=by omega
   go_wp2_with fail
   go_ret
   refine⟨g,l,rfl,hgs,hb,hwl,hll,?_,hr⟩
   have h1:=hv.out
   rw [List.take_of_length_le (by rw [hll.out];exact aI _),List.take_of_length_le (by rw [hlx.out];exact hmn)] at h1
   have h2:=HF.out
   show _=_
   rcases kH c with h0 | h0
   ·rw [h0,iC] at h1;exact h1
   ·have:=Nat.le_mul_of_pos_right (WB^i) h0
    omega
def G1 (g:Nat)(zs:List Nat)(K:Nat)(P:Nat→Nat→Prop)(w w':a0):Prop:=
 ∃zs' c,Bk w' g 45 (zs'.map bD)∧Wf zs'∧Hid (zs'.length=zs.length)∧Hid (zs'.drop K=zs.drop K)∧c≤1∧Hid (P (nv zs') c)∧Upd g w w'
theorem tV (h:i<K)(x:Nat):(l.set i x).drop K=l.drop K:=by rw [List.drop_set_of_lt h]
theorem PC {o:Nat}(hz:Bk w g 45 (zs.map bD))(hwz:Wf zs)(hy:Rd w B m cap' ys)(hne:∀a,B=some a→a.block≠g)(hK:o+m+1≤zs.length)(hm:m≤1099511627776)(_ho:o≤1099511627776):aR aJ 114 #[By (some ⟨g,o,none⟩) (m+1) cap,By B m cap'] w (fun e w'=>e= .returned (.tuple #[])∧G1 g zs (o+m+1) (fun v c=>v+WB^(o+m+1)*c=nv zs+WB^o*nv ys) w w'):=by
 have hly:=aU hy.len
 have HK:=aU hK
 clear hK
 go_enter Tryz.func114,Tryz.ntmps114
 go_wp2_with fail
 go_loopw [8,4] (fun u v wr=>∃(i c:Nat) (l:List Nat),i≤m∧c≤1∧u= AI (i:Int)∧v= AT (c:Int)∧Hid (l.length=zs.length)∧Wf l∧Bk wr g 45 (l.map bD)∧Hid (l.drop (o+m+1)=zs.drop (o+m+1))∧
  Hid (nv l+WB^(o+i)*c=nv zs+WB^o*nv (ys.take i))∧Upd g w wr) (fun u v wr=>m-(intOf u).toNat)
 case atStart=>exact⟨0,0,zs,bX _,bX _,rfl,rfl,rfl,hwz,hz,rfl,by simp [Hid,nv],Upd.refl _ _⟩
 case round=>
  obtain⟨i,c,l,hi,hc,rfl,rfl,hll,hwl,hb,hdr,hv,hr⟩:=hrel
  by_cases him:i<m
  ·obtain⟨a,y,rfl,hyk,hyb,hcy⟩:=(hy.upd hr hne).get (i:=i) (by omega)
   obtain⟨z,hzk,hzb,hcz⟩:=hb.word hwl (i:=o+i) (by rw [hll.out];have:=HK.out;omega)
   have hfr:=hb.frozen (o+i)
   obtain⟨s,d,hs,hsb,hd,hadd⟩:=uF hc hzb hyb
   go_wp2_with fail
   go_region
   go_wp2_with fail
   go_roundw
   case rel=>exact⟨i+1,d,l.set (o+i) s,by omega,hd,by go_num,rfl,by show _=_;rw [List.length_set];exact hll.out,fD hwl _ (by rw [cQ];omega),by rw [←eS];exact (hb.set _ _).drew,
    (show _=_ by rw [tV (by omega)];exact hdr.out),FP (by rw [hll.out];have:=HK.out;omega) hv.out hzk.out (by rw [hly.out];omega) hyk.out hs.out,(hr.setCell _ _).drew⟩
   case measure=>simp [intOf];omega
  ·obtain rfl:i=m:=by omega
   obtain⟨z,hzk,hzb,hcz⟩:=hb.word hwl (i:=o+i) (by rw [hll.out];have:=HK.out;omega)
   have hfr:=hb.frozen (o+i)
   go_wp2_with ((with_reducible refine cU (some 34) ?_);refine dE G G G G G vV ?_;intro s hs hsb)
   go_end0
   refine⟨rfl,l.set (o+i) s,(z+c)/18446744073709551616,by rw [←eS];exact hb.set _ _,fD hwl _ (by rw [cQ];omega),(show _=_ by rw [List.length_set];exact hll.out),(show _=_ by rw [tV (by omega)];exact hdr.out),by omega,?_,hr.setCell _ _⟩
   have h:=FO (k:=o+i) (c:=c) (s:=s) (d:=(z+c)/18446744073709551616) (by rw [hll.out];have:=HK.out;omega) hv.out hzk.out (by rw [hs.out,cQ];exact mV _ _)
   rwa [List.take_of_length_le (by rw [hly.out];exact aI _)] at h
theorem I3 {o t lo:Nat}(hi2:o+i<l.length)(h:nv l+WB^o*(d*nv (ys.take i))=V+WB^(o+i)*(c+t))(hz:l.getD (o+i) 0=z)(hy:i<ys.length)(hyk:ys.getD i 0=y)(hp:lo+WB*hi=d*y)(ha:lo2+WB*cc=lo+c)(hs:s+lo2+t=z+WB*u):nv (l.set (o+i) s)+WB^o*(d*nv (ys.take (i+1)))=V+WB^(o+i+1)*((hi+cc)+u):=by
 have J:=oN hi2 s
 rw [hz] at J
 rw [dY ys i hy,hyk,dC d,dC (WB^o),show WB^o*(d*(WB^i*y))=WB^(o+i)*(d*y) from by rw [eK,Nat.mul_left_comm d,←cW (WB^o)],eW,cW (WB^(o+i)),←hp]
 have I:WB^(o+i)*(s+lo2+t)=WB^(o+i)*(z+WB*u):=by rw [hs]
 have H:WB^(o+i)*(lo2+WB*cc)=WB^(o+i)*(lo+c):=by rw [ha]
 simp only [dC] at I H h⊢
 omega
theorem I2 {t A:Nat}(hi2:k<l.length)(h:nv l+A=V+WB^k*(c+t))(hz:l.getD k 0=z)(hs:s+c+t=z+WB*u):nv (l.set k s)+A=V+WB^(k+1)*u:=by
 have H:=oN hi2 s
 rw [hz] at H
 rw [eW,cW]
 have o:WB^k*(s+c+t)=WB^k*(z+WB*u):=by rw [hs]
 simp only [dC] at o h⊢
 omega
theorem I4 {lo:Nat}(hd:d≤18446744073709551615)(hy:y≤18446744073709551615)(hc:c≤18446744073709551615)(hp:lo+WB*hi=d*y)(ha:lo2+WB*cc=lo+c):hi+cc≤18446744073709551615:=by
 have h:d*y≤18446744073709551615*18446744073709551615:=fV hd hy
 rw [cQ] at hp ha
 omega
theorem P9 {o:Nat}(hz:Bk w g 45 (zs.map bD))(hwz:Wf zs)(hy:Rd w B m cap' ys)(hne:∀a,B=some a→a.block≠g)(hK:o+m+1≤zs.length)(hm:m≤1099511627776)(_ho:o≤1099511627776)(hd:d≤18446744073709551615):aR aJ 113 #[By (some ⟨g,o,none⟩) (m+1) cap,By B m cap',AT (d:Int)] w (fun e w'=>∃b:Bool,e= .returned (.bool b)∧G1 g zs (o+m+1) (fun v c=>(b=true↔c=1)∧v+WB^o*(d*nv ys)=nv zs+WB^(o+m+1)*c) w w'):=by
 have hly:=aU hy.len
 have HK:=aU hK
 clear hK
 go_enter Tryz.func113,Tryz.ntmps113
 go_wp2_with fail
 go_loopw [16,7,8] (fun u v x wr=>∃(i c t:Nat) (l:List Nat),i≤m∧c≤18446744073709551615∧t≤1∧u= AI (i:Int)∧v= AT (c:Int)∧x= AT (t:Int)∧Hid (l.length=zs.length)∧Wf l∧Bk wr g 45 (l.map bD)∧Hid (l.drop (o+m+1)=zs.drop (o+m+1))∧
  Hid (nv l+WB^o*(d*nv (ys.take i))=nv zs+WB^(o+i)*(c+t))∧Upd g w wr) (fun u v x wr=>m-(intOf u).toNat)
 case atStart=>exact⟨0,0,0,zs,bX _,bX _,bX _,rfl,rfl,rfl,rfl,hwz,hz,rfl,by simp [Hid,nv],Upd.refl _ _⟩
 case round=>
  obtain⟨i,c,t,l,hi,hc,ht,rfl,rfl,rfl,hll,hwl,hb,hdr,hv,hr⟩:=hrel
  by_cases him:i<m
  ·obtain⟨a,y,rfl,hyk,hyb,hcy⟩:=(hy.upd hr hne).get (i:=i) (by omega)
   obtain⟨z,hzk,hzb,hcz⟩:=hb.word hwl (i:=o+i) (by rw [hll.out];have:=HK.out;omega)
   have hfr:=hb.frozen (o+i)
   go_wp2_with fail
   refine (bits_Mul64 d y hd hyb _).mono ?_
   rintro e w1 ⟨hi',lo,hp,hhb,hlb,rfl,rfl⟩
   obtain⟨lo2,cc,hlo2,hlo2b,hccb,hadd⟩:=rJ hlb hc
   obtain⟨s,u,hs,hsb,hu,hsub⟩:=sQ ht hzb hlo2b
   have hcar:(hi':Int)+(cc:Int)≤18446744073709551615:=by have:=I4 hd hyb hc hp.out hlo2.out;omega
   go_wp2_with fail
   go_roundw
   case rel=>exact⟨i+1,hi'+cc,u,l.set (o+i) s,by omega,by omega,hu,by go_num,by go_num,rfl,by show _=_;rw [List.length_set];exact hll.out,fD hwl _ (by rw [cQ];omega),by rw [←eS];exact (hb.set _ _),
    (show _=_ by rw [tV (by omega)];exact hdr.out),I3 (by rw [hll.out];have:=HK.out;omega) hv.out hzk.out (by rw [hly.out];omega) hyk.out hp.out hlo2.out hs.out,(hr.setCell _ _)⟩
   case measure=>simp [intOf];omega
  ·obtain rfl:i=m:=by omega
   obtain⟨z,hzk,hzb,hcz⟩:=hb.word hwl (i:=o+i) (by rw [hll.out];have:=HK.out;omega)
   have hfr:=hb.frozen (o+i)
   obtain⟨s,u,hs,hsb,hu,hsub⟩:=sQ ht hzb hc
   have hfin:=I2 (k:=o+i) (by rw [hll.out];have:=HK.out;omega) hv.out hzk.out hs.out
   rw [List.take_of_length_le (by rw [hly.out];exact aI _)] at hfin
   have HFIN:=aU hfin
   clear hfin
   go_wp2_with fail
   go_ret
   refine⟨_,rfl,l.set (o+i) s,u,by rw [←eS];exact hb.set _ _,fD hwl _ (by rw [cQ];omega),(show _=_ by rw [List.length_set];exact hll.out),(show _=_ by rw [tV (by omega)];exact hdr.out),hu,⟨?_,HFIN.out⟩,hr.setCell _ _⟩
   simp
   omega
def G0 (u2 u1 u0 v1 v0:Nat)(w:a0)(e:dI)(w':a0):Prop:=
 ∃d:Nat,e= .returned (AT (d:Int))∧d≤18446744073709551615∧Hid (d*(v1*WB+v0)≤(u2*WB+u1)*WB+u0)∧Hid (d=18446744073709551615∨(u2*WB+u1)*WB+u0<(d+1)*(v1*WB+v0))∧∃m,w'=w.drewN m
theorem M7 {T:Nat}(h1:d≤18446744073709551615)(h2:d*V≤T)(h3:d=18446744073709551615∨T<(d+1)*V)(k1:D≤18446744073709551615)(k2:D*V≤T)(k3:D=18446744073709551615∨T<(D+1)*V):d=D:=by
 have key:∀a b:Nat,a≤18446744073709551615→a*V≤T→(b=18446744073709551615∨T<(b+1)*V)→a≤b:=by
  intro a b _ h k
  rcases k with k | k
  ·omega
  ·refine kW (fun o=>?_)
   have:=dX V (o5 o)
   rw [Nat.succ_eq_add_one] at this
   omega
 exact Nat.le_antisymm (key _ _ h1 h2 k3) (key _ _ k1 k2 h3)
theorem M9 (T V:Nat)(hV:0<V):∃D:Nat,D≤18446744073709551615∧D*V≤T∧(D=18446744073709551615∨T<(D+1)*V):=by
 by_cases h:T/V≤18446744073709551615
 ·exact⟨T/V,h,Nat.div_mul_le_self _ _,bK (by rw [cY];exact s7 T hV)⟩
 ·refine⟨18446744073709551615,aI _,?_,bE rfl⟩
  have o:=Nat.div_mul_le_self T V
  have H:=dX V (Nat.le_of_lt (uU h))
  omega
structure Gs (u2 u1 u0 v1 v0 d rest:Nat):Prop where
 eq:d*v1+rest=u2*WB+u1
 top:d=18446744073709551615∨(u2*WB+u1)*WB+u0<(d+1)*(v1*WB+v0)
theorem Gs.done {rest:Nat}(h:Gs u2 u1 u0 v1 v0 d rest)(hd:d*v0≤rest*WB+u0):d*(v1*WB+v0)≤(u2*WB+u1)*WB+u0:=by
 rw [←h.eq,dS,dC,←cW]
 omega
theorem Gs.step {rest:Nat}(h:Gs u2 u1 u0 v1 v0 (d+1) rest)(hd:rest*WB+u0<(d+1)*v0):Gs u2 u1 u0 v1 v0 d (rest+v1):=by
 refine⟨?_,bK ?_⟩
 ·rw [←h.eq,gO];omega
 ·rw [←h.eq,dC,dS,←cW]
  omega
theorem Gs.cmp {lo p rest:Nat}(hp:lo+WB*hi=p)(hlo:lo≤18446744073709551615)(hu:u0≤18446744073709551615):(hi<rest∨hi=rest∧lo≤u0)↔p≤rest*WB+u0:=by
 rw [←hp,cQ]
 omega
theorem Gs.over {rest:Nat}(hd:d≤18446744073709551615)(hv:v0≤18446744073709551615)(hr:18446744073709551616≤rest):d*v0≤rest*WB+u0:=by
 have h:d*v0≤18446744073709551615*18446744073709551615:=fV hd hv
 rw [cQ]
 omega
theorem PB (h2:u2≤v1)(h1:u1≤18446744073709551615)(h0:u0≤18446744073709551615)(hv1:v1≤18446744073709551615)(hv0:v0≤18446744073709551615)(hpos:0<v1)(w:a0):aR aJ 112 #[AT (u2:Int),AT (u1:Int),AT (u0:Int),AT (v1:Int),AT (v0:Int)] w (G0 u2 u1 u0 v1 v0 w):=by
 go_enter Tryz.func112,Tryz.ntmps112
 go_wp2_with fail
 go_step3
 go_upto_if 21 with (fail)
 go_cut [11,12] (fun a b wc=>∃d r:Nat,a= AT (d:Int)∧b= AT (r:Int)∧d≤18446744073709551615∧r≤18446744073709551615∧Hid (Gs u2 u1 u0 v1 v0 d r)∧∃m,wc=w.drewN m)
 case first=>
  by_cases hlt:v1≤u2
  ·obtain⟨s,c,hs,hsb,hc,hadd⟩:=rJ h1 hv1
   have hG:Hid (Gs u2 u1 u0 v1 v0 18446744073709551615 (u1+v1)):=by
    refine⟨?_,bE rfl⟩
    obtain rfl:u2=v1:=by omega
    rw [cQ];omega
   by_cases hc0:c=0
   ·subst hc0
    have b0:((0:Int) != 0)=false:=rfl
    go_wp2_with fail
    go_meet
    case rel=>
     have e:s=u1+v1:=by have:=hs.out;omega
     exact⟨18446744073709551615,s,rfl,rfl,by omega,hsb,by rw [e];exact hG,0,rfl⟩
   ·obtain rfl:c=1:=by omega
    have b1:((1:Int) != 0)=true:=rfl
    go_wp2_with fail
    simp only [Exit.noGoto_ret]
    go_ret
    exact⟨18446744073709551615,rfl,by omega,hG.out.done (Gs.over (by omega) hv0 (by have:=hs.out;rw [cQ] at this;omega)),bE rfl,0,rfl⟩
  ·go_wp2_with fail
   refine (FH (show u2<v1 by omega) h1 hv1 _).mono ?_
   rintro e w1 ⟨d,r,hd,hr,hdb,hrb,rfl,m1,rfl⟩
   go_wp2_with fail
   go_meet
   case rel=>
    have e1:d*v1+r=u2*WB+u1:=by rw [hd.out,hr.out,cY];exact lS _ _
    refine⟨d,r,rfl,rfl,hdb,by omega,⟨e1,bK ?_⟩,m1,rfl⟩
    rw [←e1,dS,dS,Nat.one_mul,dC,←cW]
    have h3:r*WB+WB≤v1*WB:=by
     have:=dX WB (o5 hrb)
     rwa [gO] at this
    have h4:u0<WB:=by rw [cQ];omega
    omega
 case rest=>
  obtain⟨d0,r0,rfl,rfl,hd0,hr0,hG0,hx0⟩:=hcut
  go_wp2_with fail
  go_step3
  go_wp2_with fail
  go_loopw [11,12] (fun a b wr=>∃d r:Nat,a= AT (d:Int)∧b= AT (r:Int)∧d≤18446744073709551615∧r≤18446744073709551615∧Hid (Gs u2 u1 u0 v1 v0 d r)∧wc=wr) (fun a b wr=>(intOf a).toNat)
  case atStart=>exact⟨d0,r0,rfl,rfl,hd0,hr0,hG0,rfl⟩
  case round=>
   obtain⟨d,r,rfl,rfl,hd,hr,hG,rfl⟩:=hrel
   clear hG0 hd0 hr0
   go_wp2_with fail
   refine (bits_Mul64 d v0 hd hv0 _).mono ?_
   rintro e w1 ⟨hi,lo,hp,hhb,hlb,rfl,rfl⟩
   have hcmp:=aU (Gs.cmp (rest:=r) hp.out hlb h0)
   have fin:∀d:Nat,d≤18446744073709551615→d*(v1*WB+v0)≤(u2*WB+u1)*WB+u0→(d=18446744073709551615∨(u2*WB+u1)*WB+u0<(d+1)*(v1*WB+v0))→G0 u2 u1 u0 v1 v0 w (.returned (AT (d:Int))) wc:=fun d a b c=>⟨d,rfl,a,b,c,hx0⟩
   have FIN:=aU fin
   clear fin
   have bad:¬d*v0≤r*WB+u0→∃d',d=d'+1∧Gs u2 u1 u0 v1 v0 d' (r+v1):=by
    intro h
    cases d with
    | zero=>simp at h
    | succ d'=>exact⟨d',rfl,hG.out.step (by omega)⟩
   have BAD:=aU bad
   clear bad
   obtain⟨s,c,hs,hsb,hc,hadd⟩:=rJ hr hv1
   by_cases hA:hi<r
   ·go_wp2_with fail
    go_ret
    exact FIN.out d hd (hG.out.done (hcmp.out.1 (bE hA))) hG.out.top
   ·by_cases hB:hi=r
    ·have b1:((hi:Int)==(r:Int))=true:=by simp [hB]
     have HB:=aU hB
     clear hB
     by_cases hC:lo≤u0
     ·go_wp2_with fail
      go_ret
      exact FIN.out d hd (hG.out.done (hcmp.out.1 (bK ⟨HB.out,hC⟩))) hG.out.top
     ·obtain⟨d',rfl,hG'⟩:=BAD.out (fun h=>by have:=hcmp.out.2 h;have:=HB.out;omega)
      have HG':=aU hG'
      clear hG'
      have ed:((d'+1:Nat):Int)-1=(d':Int):=by omega
      by_cases hc0:c=0
      ·subst hc0
       have b0:((0:Int) != 0)=false:=rfl
       go_wp2_with fail
       go_roundw
       case rel=>exact⟨d',s,rfl,rfl,by omega,hsb,by rw [show s=r+v1 from by have:=hs.out;omega];exact HG',Ht⟩
       case measure=>simp [intOf]
      ·obtain rfl:c=1:=by omega
       have b0:((1:Int) != 0)=true:=rfl
       go_wp2_with fail
       go_ret
       exact FIN.out d' (by omega) (HG'.out.done (Gs.over (by omega) hv0 (by have:=hs.out;rw [cQ] at this;omega))) HG'.out.top
    ·have b1:((hi:Int)==(r:Int))=false:=by simp;omega
     obtain⟨d',rfl,hG'⟩:=BAD.out (fun h=>by have:=hcmp.out.2 h;omega)
     have HG':=aU hG'
     clear hG'
     have ed:((d'+1:Nat):Int)-1=(d':Int):=by omega
     by_cases hc0:c=0
     ·subst hc0
      have b0:((0:Int) != 0)=false:=rfl
      go_wp2_with fail
      go_roundw
      case rel=>exact⟨d',s,rfl,rfl,by omega,hsb,by rw [show s=r+v1 from by have:=hs.out;omega];exact HG',Ht⟩
      case measure=>simp [intOf]
     ·obtain rfl:c=1:=by omega
      have b0:((1:Int) != 0)=true:=rfl
      go_wp2_with fail
      go_ret
      exact FIN.out d' (by omega) (HG'.out.done (Gs.over (by omega) hv0 (by have:=hs.out;rw [cQ] at this;omega))) HG'.out.top
theorem AG (h:n≤9223372036854775807):IntKind.i64.wrap (n:Int)=(n:Int):=by
 simp only [sG,pP,pO]
 simp
 omega
theorem M0 (hy:y≠0)(hx:x≤9223372036854775807)(P:bP)(t:aO)(w:a0):(binOp .quo t (AI (x:Int)) (AI (y:Int))).run P w= .ok (AI ((x/y:Nat):Int)) w:=by
 have h:=iM x y
 have e:IntKind.i64.wrap ((x:Int).tdiv (y:Int))=((x/y:Nat):Int):=by
  have:(x:Int).tdiv (y:Int)=((x/y:Nat):Int):=by rw [vB (by omega)];simp
  rw [this,AG (by omega)]
 simp only [binOp,rX]
 simp [hy]
 rw [show (↑x/ ↑y:Int)=((x/y:Nat):Int) from by simp] at*
 simpa [vB] using e
theorem LZ (hy:y≠0)(hx:x≤9223372036854775807)(P:bP)(t:aO)(w:a0):(binOp .rem t (AI (x:Int)) (AI (y:Int))).run P w= .ok (AI ((x%y:Nat):Int)) w:=by
 have h:=Nat.mod_le x y
 have e:IntKind.i64.wrap ((x:Int).tmod (y:Int))=((x%y:Nat):Int):=by
  have:(x:Int).tmod (y:Int)=((x%y:Nat):Int):=by rw [Int.tmod_eq_emod_of_nonneg (by omega)];simp
  rw [this,AG (by omega)]
 simp only [binOp,rX]
 simp [hy]
 rw [show (↑x% ↑y:Int)=((x%y:Nat):Int) from by simp] at*
 simp [Int.tmod_eq_emod_of_nonneg]
theorem AJ {Q:cE→Act→a0→Prop}(hgd:o.guard=none){t:aO}{x y:cA}(ho:o.op= .binOp op t x y ty){f:Nat}(hx:a.eval x=vx)(hy:a.eval y=vy)(hne:xP op=false)(hr:∀(P:bP) (t:aO) (w:a0),(binOp op t vx vy).run P w= .ok (AI (f:Int)) w)(h:∀r:Nat,Hid (r=f)→wpList P ops Q rest (a.put o.dst (AI (r:Int))) w):wpList P ops Q (o::rest) a w:=
 AK hgd ho hx hy hne (fun w=>hr P t w) (h f G)
theorem QN (hx:x≤18446744073709551615)(hy:y≤18446744073709551615):bits BinOp.or IntKind.u64 (x:Int) (y:Int)=((x||| y:Nat):Int):=by
 have e:IntKind.u64.wrap ((oC 64 (x:Int)||| oC 64 (y:Int)).toNat:Int)=((x||| y:Nat):Int):=by
  rw [BitVec.toNat_or,oL hx,oL hy,lZ,gP (mU (n:=64) (by omega) (by omega))]
 exact e
theorem GL (x k:Nat):IntKind.u64.wrap ((x:Int)*2^k)=((x*2^k%18446744073709551616:Nat):Int):=by
 rw [←lZ];simp
theorem IR (hs:s<64):x/2^s||| (y*2^(64-s)%18446744073709551616)=x/2^s+(y%2^s)*2^(64-s)∨18446744073709551616≤x:=by
 by_cases H:x<18446744073709551616
 ·left
  have e:18446744073709551616=2^s*2^(64-s):=by rw [←eK,show s+(64-s)=64 from by omega]
  have h:y*2^(64-s)%18446744073709551616=(y%2^s)*2^(64-s):=by rw [e,uR]
  have o:x/2^s<2^(64-s):=s8 (by rw [←e];exact H)
  rw [h,Nat.or_comm,wR o,Nat.add_comm]
 ·right;omega
theorem BM (hi:i<l.length)(hix:i<xs.length)(hx:xs.getD i 0=x)(_hy:xs.getD (i+1) 0=y)(hz:z=x/2^s+(y%2^s)*2^(64-s))(hs:s<64)(h:nv (l.take i)*2^s+r0=nv (xs.take i)+WB^i*(x%2^s)):nv ((l.set i z).take (i+1))*2^s+r0=nv (xs.take (i+1))+WB^(i+1)*(y%2^s):=by
 rw [wW hi,dY xs i hix,hx,dS]
 have I:z*2^s=x/2^s*2^s+WB*(y%2^s):=by
  rw [hz,dS,cW,←eK,jS (by omega),←nX,cY WB]
 have H:x/2^s*2^s+x%2^s=x:=by rw [cY];exact lS _ _
 have o:WB^i*x=WB^i*(x/2^s*2^s)+WB^i*(x%2^s):=by rw [←dC,H]
 rw [cW (WB^i) z,I,o,eW,cW (WB^i) WB,dC]
 omega
theorem KC (hx:Rd w A m cap xs)(hl:m≤1099511627775)(hn:n≤9223372036854775807):aR aJ 115 #[By A m cap,AI (n:Int)] w (rN w (nv xs/2^n) 0):=by
 go_enter Tryz.func115,Tryz.ntmps115
 go_wp2_with fail
 refine (iG hx).mono ?_
 rintro e w' ⟨k,hk,hkn,rfl,rfl⟩
 go_upto_region 4 with (first
  | ((with_reducible refine cU (some 16) ?_);refine AJ rfl rfl rfl rfl rfl (M0 (x:=n) (y:=64) (by omega) hn) ?_;intro q hq)
  | ((with_reducible refine cU (some 18) ?_);refine AJ rfl rfl rfl rfl rfl (LZ (x:=n) (y:=64) (by omega) hn) ?_;intro s hs;have hs64:s<64:=(by rw [hs.out];exact j7 _ (by omega));have hqb:q≤9223372036854775807:=(by have:=hq.out;omega)))
 have hnqs:Hid (n=64*q+s):=(show _=_ by rw [hq.out,hs.out];exact (lS _ _).symm)
 clear hq hs
 have hlx:=aU hx.len
 by_cases hkq:k≤q
 ·go_wp2_with fail
  go_ret2
  refine zI (R7 ?_ aB)
  refine gZ ?_
  rw [hnqs.out,eK,Nat.pow_mul,←nX]
  have h1:=oR (nv xs)
  rw [←hk.out] at h1
  have h2:WB^k≤WB^q:=lQ eQ hkq
  have h3:=Nat.le_mul_of_pos_right (WB^q) (kV s)
  omega
 ·obtain⟨p,hkp⟩:∃p,k=q+p:=⟨k-q,by omega⟩
  have hp:0<p:=by omega
  obtain⟨ys,hys⟩:∃ys,(xs.take k).drop q=ys:=⟨_,rfl⟩
  have hyl:Hid (ys.length=p):=(show _=_ by rw [←hys,kX,dH,hlx.out];omega)
  have hyv:Hid (nv xs/2^n=nv ys/2^s):=by
   show _=_
   rw [hnqs.out,eK,Nat.pow_mul,←nX,←Nat.div_div_eq_div_mul]
   congr 1
   have h1:=mE hx.wf hk.out
   have h2:=lF (xs.take k) q (by rw [dH,hlx.out];omega)
   have h3:=jI (nW hx.wf k) q
   rw [←h1,h2,hys,Nat.add_comm,lR (jT eQ),gZ h3,eA]
  have hyg:Hid (∀i,i<p→ys.getD i 0=xs.getD (q+i) 0):=by
   intro i hi
   rw [←hys]
   simp only [bO,oA,iN]
   rw [if_pos (by omega)]
  clear hys hk
  have hmk:=lD (P:=aJ) Tryz.underlying39 lH G (by decide) ((k:Int)-(q:Int)) (by omega) (by omega)
  have et:((k:Int)-(q:Int)).toNat=p:=by omega
  rw [et] at hmk
  clear et
  have hxn:=aU hnqs.out
  clear hnqs
  have hnk:¬(k:Int)≤(q:Int):=by omega
  have hnk0:¬(k:Int)-(q:Int)<0:=by omega
  have HL:=aU hl
  clear hqb hn
  have hkp1:k≤q+p:=by omega
  have hkp2:q+p≤k:=by omega
  clear hkp
  go_wp2_with fail
  clear hmk
  obtain⟨g,hg⟩:∃g,w.heap.size=g:=⟨_,rfl⟩
  rw [hg]
  obtain⟨wa,hwa⟩:∃wa,w.alloc (.cells (zc (.int .u64 0) p) 45)=wa:=⟨_,rfl⟩
  rw [hwa]
  have hbk:Bk wa g 45 ((dL p 0).map bD):=by
   rw [←hwa,←hg,←mB];exact Bk.new' _ _ _
  have hea:Ext w wa:=by rw [←hwa];exact (Ext.refl w).alloc _
  have hgs:w.heap.size≤g:=by rw [hg];exact aI _
  clear hg hwa
  have hsb:(s:Int)≤63:=by omega
  have hs64':s≤64:=by omega
  go_loopw [29] (fun u wr=>∃(i:Nat) (l:List Nat),i≤p∧u= AI (i:Int)∧Hid (l.length=p)∧Wf l∧Bk wr g 45 (l.map bD)∧
   Hid (nv (l.take i)*2^s+ys.getD 0 0%2^s=nv (ys.take i)+WB^i*(ys.getD i 0%2^s))∧Ext w wr) (fun u wr=>p-(intOf u).toNat)
  case atStart=>exact⟨0,_,bX _,rfl,List.length_replicate,lN _,hbk,by simp [Hid,nv],hea⟩
  case round=>
   obtain⟨i,l,hi,rfl,hll,hwl,hb,hv,hr⟩:=hrel
   clear hbk hea
   by_cases hip:i<p
   ·obtain⟨a,x,rfl,hxk,hxb,hcx⟩:=(hx.ext hr).get (i:=q+i) (by omega)
    obtain⟨o,ho,_,hco⟩:=hb.word hwl (i:=i) (by rw [hll.out];omega)
    have hfr:=hb.frozen i
    have hxy:Hid (ys.getD i 0=x):=(show _=_ by rw [hyg.out i hip];exact hxk.out)
    by_cases hi1:i+1<p
    ·obtain⟨a',y,ha',hyk,hyb,hcy⟩:=(hx.ext hr).get (i:=q+i+1) (by omega)
     cases ha'
     have hyy:Hid (ys.getD (i+1) 0=y):=(show _=_ by rw [hyg.out (i+1) hi1];exact hyk.out)
     go_upto_region 12 with ((with_reducible refine cU (some 41) ?_);refine dE G G G G G (m7 hs64') ?_ (hf:=(by have:=iM x (2^s);omega));intro z hz hzb)
     obtain⟨w2,hw2⟩:∃w2,wr.setCell ⟨g,i,none⟩ (.int .u64 (z:Int))=w2:=⟨_,rfl⟩
     rw [hw2]
     have hb2:Bk w2 g 45 ((l.set i z).map bD):=by rw [←hw2,←eS];exact hb.set i _
     have hr2:Ext w w2:=by rw [←hw2];exact hr.setCell hgs _
     have hwl2:Wf (l.set i z):=fD hwl i (by rw [cQ];omega)
     have hll2:Hid ((l.set i z).length=p):=(show _=_ by rw [List.length_set];exact hll.out)
     have hz2:Hid ((l.set i z).getD i 0=z):=(show _=_ by have:=hll.out;simp [bO,this,hip])
     clear hw2
     obtain⟨z2,hzk2,hzb2,hcz2⟩:=hb2.word hwl2 (i:=i) (by rw [hll2.out];omega)
     obtain rfl:z2=z:=by rw [←hzk2.out,hz2.out]
     have hfr2:=hb2.frozen i
     obtain⟨a2,y2,ha2,hyk2,_,hcy2⟩:=(hx.ext hr2).get (i:=q+i+1) (by omega)
     cases ha2
     obtain rfl:y2=y:=by rw [←hyk2.out,hyk.out]
     clear hcy hco hb hr hfr hcx hzk2 hyk2
     have hcy4:w2.cell? (⟨a.block,a.off+(q+i+1),none⟩:a6)=some (AT (y2:Int)):=by simpa [mZ] using hcy2
     clear hcy2
     have hmb:y2*2^(64-s)%18446744073709551616≤18446744073709551615:=by omega
     obtain⟨r,hrd⟩:∃r,z2||| (y2*2^(64-s)%18446744073709551616)=r:=⟨_,rfl⟩
     have hrb:r≤18446744073709551615:=by
      have:=mU (n:=64) (x:=z2) (y:=y2*2^(64-s)%18446744073709551616) (by omega) (by omega)
      omega
     have hbits:Hid (bits BinOp.or IntKind.u64 (z2:Int) (IntKind.u64.wrap ((y2:Int)*2^(64-s)))=(r:Int)):=by
      show _=_
      rw [GL,QN hzb hmb,hrd]
     have hsum:Hid (r=x/2^s+(y2%2^s)*2^(64-s)):=by
      show _=_
      rw [←hrd,hz.out]
      rcases IR (x:=x) (y:=y2) hs64 with h | h
      ·exact h
      ·omega
     clear hrd hmb
     go_region
     rw [hbits.out]
     go_wp2_with fail
     go_roundw
     case rel=>
      refine⟨i+1,(l.set i z2).set i r,by omega,by go_num,(show _=_ by rw [List.length_set,hll2.out]),fD hwl2 i (by rw [cQ];omega),by rw [←eS];exact (hb2.set i _).drew,?_,(hr2.setCell hgs _).drew⟩
      show _=_
      rw [List.set_set,hyy.out]
      exact BM (by rw [hll.out];omega) (by rw [hyl.out];omega) hxy.out hyy.out hsum.out hs64 (by rw [←hxy.out];exact hv.out)
     case measure=>simp [intOf];omega
    ·have hi2:¬(q:Int)+(i:Int)+1<(k:Int):=by omega
     have hyz:Hid (ys.getD (i+1) 0=0):=by
      show _=_
      rw [bO,mX (by rw [hyl.out];omega)];rfl
     go_wp2_with ((with_reducible refine cU (some 41) ?_);refine dE G G G G G (m7 hs64') ?_ (hf:=(by have:=iM x (2^s);omega));intro z hz hzb)
     go_roundw
     case rel=>
      refine⟨i+1,l.set i z,by omega,by go_num,(show _=_ by rw [List.length_set,hll.out]),fD hwl i (by rw [cQ];omega),by rw [←eS];exact hb.set i _,?_,hr.setCell hgs _⟩
      have:=BM (l:=l) (y:=0) (z:=z) (by rw [hll.out];omega) (by rw [hyl.out];omega) hxy.out hyz.out (by rw [hz.out];simp) hs64 (by rw [←hxy.out];exact hv.out)
      show _=_
      rw [hyz.out]
      exact this
     case measure=>simp [intOf];omega
   ·obtain rfl:i=p:=by omega
    have hval:Hid (nv l=nv xs/2^n):=by
     show _=_
     have h:=hv.out
     rw [List.take_of_length_le (by rw [hll.out];exact aI _),List.take_of_length_le (by rw [hyl.out];exact aI _)] at h
     have h0:ys.getD i 0=0:=by rw [bO,mX (by rw [hyl.out];exact aI _)];rfl
     rw [h0,Nat.zero_mod,iC,eA] at h
     have h1:=j7 (ys.getD 0 0) (kV s)
     rw [hyv.out,←h,cY,lR (kV s),gZ h1,eA]
    have hr2:Rd wr (some ⟨g,0,none⟩) i i l:=by
     have:=hb.rd hwl (o:=0) (n:=i) (cap:=i) (aI _) (by rw [hll.out];omega) (by rw [eY];omega)
     rwa [lU,List.take_of_length_le (by rw [hll.out];omega)] at this
    have hpm:i≤m:=by omega
    clear hkp1 hkp2
    go_wp2_with fail
    refine (iG hr2).mono ?_
    rintro e w' ⟨t,ht,htn,rfl,rfl⟩
    go_wp2_with fail
    go_ret2
    rw [←hval.out]
    exact zI (rM (ys:=l) hgs hb hll.out htn (by rw [eY];omega) (m4 hwl ht.out).symm hr)
def R8 (w:a0)(q r:Nat)(e:dI)(w':a0):Prop:=
 ∃A n cap B m cap',e= .returned (.tuple #[By A n cap,By B m cap'])∧Hid (n=(wd q).length)∧Rd w' A n cap (wd q)∧Own w' w.heap.size 45 1 A n cap ((wd q).map bD)∧
  Hid (m=(wd r).length)∧Rd w' B m cap' (wd r)∧Own w' w.heap.size 45 1 B m cap' ((wd r).map bD)∧Ext w w'∧∀p p',A=some p→B=some p'→p.block≠p'.block
theorem M8 {U M Uh Vh:Nat}(hM:0<M)(hUh:Uh=U/M)(hVh:Vh=V/M)(hbig:WB≤Vh)(hd:d<WB)(h1:d*Vh≤Uh)(h2:d=18446744073709551615∨Uh<(d+1)*Vh)(hU:U<V*WB):U/V≤d∧d≤U/V+1:=by
 have hV:0<V:=by
  rcases kH V with h | h
  ·rw [h,Nat.zero_mul] at hU;omega
  ·exact h
 constructor
 ·rcases h2 with h | h
  ·have:U/V<WB:=s8 hU
   rw [cQ] at this
   omega
  ·have h3:U/V*Vh≤Uh:=by
    rw [hUh,Nat.le_div_iff_mul_le hM]
    have H:Vh*M≤V:=by rw [hVh];exact Nat.div_mul_le_self _ _
    have J:=j6 (U/V) H
    have h6:=Nat.div_mul_le_self U V
    rw [←cW] at J
    omega
   have I:U/V*Vh<(d+1)*Vh:=by omega
   have:=Nat.lt_of_mul_lt_mul_right I
   omega
 ·refine kW (fun o=>?_)
  have h3:d*Vh*M≤U:=by
   have:=dX M h1
   have H:Uh*M≤U:=by rw [hUh];exact Nat.div_mul_le_self _ _
   omega
  have H:V<(Vh+1)*M:=by rw [hVh,cY];exact s7 V hM
  have J:U<(U/V+1)*V:=by rw [cY];exact s7 U hV
  have h6:(U/V+1)*V≤(d-1)*V:=dX V (by omega)
  have I:(d-1)*V≤(d-1)*((Vh+1)*M):=j6 _ (Nat.le_of_lt H)
  have h8:d*Vh*M<(d-1)*(Vh+1)*M:=by
   rw [cW (d-1)]
   exact o7 h3 (cJ J (a7 h6 I))
  have h9:=Nat.lt_of_mul_lt_mul_right h8
  have ag:0<d:=o7 (bX _) o
  clear o h3 H J h6 I h8
  obtain⟨d,rfl⟩:∃e,d=e+1:=⟨d-1,by omega⟩
  rw [zR,gO,dC,gY] at h9
  omega
theorem L6 {L1:Nat}(hD:0<D)(hd1:L/D≤d)(hd2:d≤L/D+1)(_hK:L<K)(hL1:L1<K)(h:L1+d*D=L+K*c)(hc:c≤1):(c=0→d=L/D∧L1=L%D)∧(c=1→d=L/D+1∧∀L2 c2,c2≤1→L2<K→L2+K*c2=L1+D→L2=L%D):=by
 have U:=lS L D
 have e2:=j7 L hD
 generalize L/D=q at*
 generalize L%D=r at*
 have o:d=q∨d=q+1:=by omega
 have I:d*D=D*q∨d*D=D*q+D∧d=q+1:=by
  rcases o with rfl | rfl
  ·left;exact cY _ _
  ·right;exact⟨by rw [gO,cY],rfl⟩
 have J:d*D=D*q+D∨d*D=D*q∧d=q:=by
  rcases o with rfl | rfl
  ·right;exact⟨cY _ _,rfl⟩
  ·left;rw [gO,cY]
 generalize d*D=a at*
 generalize D*q=b at*
 constructor
 ·rintro rfl
  rw [iC,eA] at h
  rcases J with J | ⟨J,H⟩
  ·omega
  ·exact⟨H,by omega⟩
 ·rintro rfl
  rw [gY] at h
  rcases I with I | ⟨I,H⟩
  ·omega
  ·refine⟨H,fun L2 c2 _ _ _=>?_⟩
   rcases (show c2=0∨c2=1 by omega) with rfl | rfl <;> omega
structure Lg (V U0 k:Nat)(l ql:List Nat):Prop where
 eq:U0=WB^k*nv (ql.drop k)*V+nv l
 lt:nv l<V*WB^k
theorem Lg.step (h:Lg V U0 (j+1) l ql)(hj:j<ql.length)(hV:0<V)(hq:q=nv l/(WB^j*V))(hl2:nv l2=nv l%(WB^j*V)):Lg V U0 j l2 (ql.set j q):=by
 have I:0<WB^j*V:=pI (jT eQ) hV
 have H:(ql.set j q).drop j=q::ql.drop (j+1):=by
  rw [zW (by rw [List.length_set];exact hj)]
  congr 1
  ·simp
  ·rw [List.drop_set_of_lt (by omega)]
 refine⟨?_,?_⟩
 ·have o:=lS (nv l) (WB^j*V)
  rw [←hq,←hl2] at o
  rw [h.eq,H,mF,dC,dS,eW,cW (WB^j) WB,←o]
  have J:WB^j*q*V=WB^j*V*q:=rY _ _ _
  omega
 ·rw [hl2,cY V];exact j7 _ I
theorem HU (hn:2≤n)(hl:j+n+1≤l.length)(hw:Wf l)(hlt:nv l<WB^(j+n+1)):nv l/WB^(j+n-2)=(l.getD (j+n) 0*WB+l.getD (j+n-1) 0)*WB+l.getD (j+n-2) 0:=by
 obtain⟨m,rfl⟩:∃m,n=m+2:=⟨n-2,by omega⟩
 have H:=lF l (j+(m+2)+1) hl
 have o:nv l=nv (l.take (j+(m+2)+1)):=by
  rcases kH (nv (l.drop (j+(m+2)+1))) with h | h
  ·rw [h,iC,eA] at H;exact H
  ·have:=Nat.le_mul_of_pos_right (WB^(j+(m+2)+1)) h
   omega
 have U:=dY l (j+(m+2)) (by omega)
 have I:=dY l (j+m+1) (by omega)
 have e3:=dY l (j+m) (by omega)
 rw [show j+m+1+1=j+(m+2) from by omega] at I
 rw [show j+(m+2)-2=j+m from by omega,show j+(m+2)-1=j+m+1 from by omega,o,U,I,e3]
 have h4:=jI hw (j+m)
 rw [show WB^(j+(m+2))=WB^(j+m)*(WB*WB) from by rw [show j+(m+2)=j+m+1+1 from by omega,eW,eW,cW],show WB^(j+m+1)=WB^(j+m)*WB from eW _ _]
 generalize l.getD (j+(m+2)) 0=u2
 generalize l.getD (j+m+1) 0=u1
 generalize l.getD (j+m) 0=u0
 have J:nv (l.take (j+m))+WB^(j+m)*u0+WB^(j+m)*WB*u1+WB^(j+m)*(WB*WB)*u2=WB^(j+m)*((u2*WB+u1)*WB+u0)+nv (l.take (j+m)):=by
  have e6:WB^(j+m)*WB*u1=WB^(j+m)*(u1*WB):=by rw [cW,cY WB u1]
  have e7:WB^(j+m)*(WB*WB)*u2=WB^(j+m)*(u2*WB*WB):=by rw [cW,cY (WB*WB),←cW u2]
  rw [e6,e7,dS,dC,dC]
  omega
 rw [J,lR (jT eQ),gZ h4,eA]
theorem HO (hn:2≤n)(hl:l.length=n)(hw:Wf l):nv l/WB^(n-2)=l.getD (n-1) 0*WB+l.getD (n-2) 0:=by
 obtain⟨m,rfl⟩:∃m,n=m+2:=⟨n-2,by omega⟩
 have h:nv l=nv (l.take (m+1+1)):=by rw [List.take_of_length_le (by omega)]
 have H:=dY l (m+1) (by omega)
 have J:=dY l m (by omega)
 have I:=jI hw m
 rw [show m+2-2=m from rfl,show m+2-1=m+1 from rfl,h,H,J,eW]
 generalize l.getD (m+1) 0=u1
 generalize l.getD m 0=u0
 have o:nv (l.take m)+WB^m*u0+WB^m*WB*u1=WB^m*(u1*WB+u0)+nv (l.take m):=by
  rw [cW,cY WB u1,dC];omega
 rw [o,lR (jT eQ),gZ I,eA]
theorem L4 {vs:List Nat}(h:Lg V U0 (j+1) l ql)(hn:2≤n)(hl:j+n+1≤l.length)(hw:Wf l)(hvl:vs.length=n)(hvw:Wf vs)(hV:nv vs=V)(hv1:0<vs.getD (n-1) 0):nv l<WB^(j+n+1)∧l.getD (j+n) 0≤vs.getD (n-1) 0∧(d≤18446744073709551615→d*(vs.getD (n-1) 0*WB+vs.getD (n-2) 0)≤(l.getD (j+n) 0*WB+l.getD (j+n-1) 0)*WB+l.getD (j+n-2) 0→
   (d=18446744073709551615∨(l.getD (j+n) 0*WB+l.getD (j+n-1) 0)*WB+l.getD (j+n-2) 0<(d+1)*(vs.getD (n-1) 0*WB+vs.getD (n-2) 0))→nv l/(WB^j*V)≤d∧d≤nv l/(WB^j*V)+1):=by
 have I:V<WB^n:=by rw [←hV,←hvl];exact i5 hvw
 have H:nv l<WB^(j+n+1):=by
  have J:=h.lt
  have o:V*WB^(j+1)≤WB^n*WB^(j+1):=dX _ (Nat.le_of_lt I)
  rw [←eK,show n+(j+1)=j+n+1 from by omega] at o
  omega
 have t3:=HU hn hl hw H
 have t2:=HO hn hvl hvw
 rw [hV] at t2
 refine⟨H,?_,?_⟩
 ·have J:WB^(j+n)*l.getD (j+n) 0≤nv l:=by
   have e0:=lF l (j+n+1) hl
   have e1:=dY l (j+n) (by omega)
   omega
  have o:V<WB^(n-1)*(vs.getD (n-1) 0+1):=by
   have e1:=dY vs (n-1) (by omega)
   rw [jS (by omega),List.take_of_length_le (by omega),hV] at e1
   have e2:=jI hvw (n-1)
   rw [e1,dC,gY]
   omega
  have h3:V*WB^(j+1)<WB^(n-1)*(vs.getD (n-1) 0+1)*WB^(j+1):=pJ o (jT eQ)
  rw [rY,←eK,show n-1+(j+1)=j+n from by omega] at h3
  have h4:=h.lt
  have h5:WB^(j+n)*l.getD (j+n) 0<WB^(j+n)*(vs.getD (n-1) 0+1):=by omega
  have:=Nat.lt_of_mul_lt_mul_left h5
  omega
 ·intro _ J o
  rw [←t3] at J o
  rw [←t2] at J o
  have U:V/WB^(n-2)=(WB^j*V)/WB^(j+n-2):=by
   rw [show j+n-2=j+(n-2) from by omega,eK,Nat.mul_div_mul_left _ _ (jT eQ)]
  refine M8 (M:=WB^(j+n-2)) (jT eQ) G U ?_ (by rw [cQ];omega) J o ?_
  ·rw [t2]
   have:=Nat.le_mul_of_pos_left WB hv1
   omega
  ·have:=h.lt
   rw [eW,←cW,cY V] at this
   exact this
theorem L5 {X Q:Nat}(hY:0<Y)(h:X*2^s=Q*(Y*2^s)+L)(hL:L<Y*2^s):Q=X/Y∧L/2^s=X%Y:=by
 have o:=kV s
 have H:X*2^s/(Y*2^s)=Q:=by rw [h,cY Q,lR (pI hY o),gZ hL,eA]
 have I:X*2^s%(Y*2^s)=L:=by rw [h,cY Q,rZ,gP hL]
 rw [zQ _ _ o] at H
 rw [uR] at I
 exact⟨H.symm,by rw [←I,Nat.mul_div_cancel _ o]⟩
theorem L3 (hx:Wf xs)(hy:Wf ys)(hxl:xs.length=N)(hyl:ys.length=n)(hn:1≤n)(hnN:n≤N)(hyk:ys.getD (n-1) 0=y)(hy0:y≠0)(hyb:y≤18446744073709551615)(hs:s+dR y=64):s<64∧nv ys*2^s<WB^n∧nv xs*2^s<WB^(N+1)∧0<nv ys*2^s∧WB^(n-1)≤nv ys*2^s∧nv xs*2^s<nv ys*2^s*WB^(N+1-n):=by
 have hb:dR y≠0:=fun h=>hy0 (rD.1 h)
 have o:=kV s
 have e1:=dY ys (n-1) (by omega)
 rw [jS hn,List.take_of_length_le (by omega),hyk] at e1
 have h1:=jI hy (n-1)
 have h2:WB^(n-1)≤nv ys:=by
  have:=Nat.le_mul_of_pos_right (WB^(n-1)) (show 0<y by omega)
  omega
 have h3:nv ys≤nv ys*2^s:=Nat.le_mul_of_pos_right _ o
 have h4:=tK y
 have J:=i5 hx
 rw [hxl] at J
 have ae:=jT (n:=n-1) eQ
 refine⟨by omega,?_,?_,by omega,by omega,?_⟩
 ·have I:nv ys<WB^(n-1)*(y+1):=by rw [dC,gY];omega
  have U:WB^(n-1)*(y+1)≤WB^(n-1)*2^dR y:=j6 _ h4
  have H:nv ys*2^s<WB^(n-1)*2^dR y*2^s:=pJ (by omega) o
  rw [cW,←eK,Nat.add_comm (dR y),hs,←nX,←eW,Nat.succ_eq_add_one,jS hn] at H
  exact H
 ·rw [eW]
  have I:2^s≤WB:=by rw [nX];exact lQ (by omega) (by omega)
  have U:=pJ J o
  have H:=j6 (WB^N) I
  omega
 ·have I:WB^N≤nv ys*WB^(N+1-n):=by
   have:=dX (WB^(N+1-n)) h2
   rw [←eK,show n-1+(N+1-n)=N from by omega] at this
   exact this
  rw [rY]
  exact pJ (by omega) o
end
end Go.Proofs.YtnpbbknemflpnaaGreat
