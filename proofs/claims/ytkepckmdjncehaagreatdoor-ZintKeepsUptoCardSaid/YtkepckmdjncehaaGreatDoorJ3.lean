/- Parts Rs, Str, One, Rxd, Rt, Ru, Rxe, Rv, Rw, Law4, Law4t, Grp2, Strc, Lg5, Lg5b, Law5s, Ref1, Ref1b, Ref2, Ref1d, Ref3, joined. -/
import Derived.Test.YtkepckmdjncehaaGreatDoorJ2
import Derived.Laws.RangeAny
import Derived.ChangeMaps5
import Derived.Laws.Slices

open Go renaming Addr → a8, Calls → aQ, Edge → fD, Exit → dH, Next → fU, Oper → bB, Operand → cG, Program → bV, TypeId → aV, Value → aD, World → a0, info_parts → oC, run_underlying → kK
open Go.Builtin renaming append_ → lP
open Go.Instr renaming makeSlice → oK
open Int renaming toNat_natCast → gX
open List renaming drop_zero → gQ, getD_eq_getElem?_getD → bE, getElem?_eq_getElem → bR, getElem?_eq_none → gW, getElem?_map → iK, getElem?_take → iW, getElem_mem → lO, length_append → eN, length_cons → gD, length_drop → gS, length_eq_zero_iff → pV, length_take → dE, map_cons → iJ, map_drop → s3, map_nil → j7, map_take → jN, mem_map → lN, mem_of_mem_drop → nF, mem_of_mem_take → oI, mem_singleton → mD, replicate → cJ, take_append_drop → s0
open Nat renaming add_assoc → j5, add_mul → dO, add_zero → eS, div_le_self → eR, div_lt_self → jM, eq_zero_or_pos → kC, le_refl → aX, le_trans → aE, lt_of_le_of_lt → jL, lt_of_lt_of_le → cS, min_eq_left → g7, mod_add_div → jF, mod_lt → fV, mul_add → cZ, mul_assoc → bY, mul_comm → cY, mul_le_mul → j3, mul_le_mul_left → fN, mul_le_mul_right → eC, mul_one → dK, mul_pos → iI, mul_zero → gJ, pow_add → dX, pow_le_pow_right → eW, pow_pos → gC, pow_succ → dJ, sub_add_cancel → iH, zero_add → eQ, zero_le → bJ
open Go.Next renaming value → gE
open Option renaming getD_some → lJ
open Option.some renaming injEq → eH
open Or renaming inl → cD, inr → bT
open Go.Result renaming andThen_ok → eG
open Go.Sem renaming run_bind → cA
open Go.Proofs.Tryz renaming prog → aH
open Go.Value renaming int → d8, slice → oD
open Go.World renaming block_lt_of_cell? → pO
namespace Go.Proofs.YtkepckmdjncehaaGreatDoor
set_option maxHeartbeats 4000000
variable {A Aa Ab B C D PA S:Option a8}{N X ac an b b' base bytes c c' ca cap cap' d f g i ip j k lb m m' n n' na p pb pn s u unit v width x y:Nat}{P:bV}{T e t ty:aV}{a bs ds es l ms pre ps tl xs ys:List Nat}{af:Array fD}{gd:Option (Nat×Bool)}{high low:Option aD}{news us vs:List aD}{o:BinOp}{ops:Array bB}{r sa sb:Bool}{rest:List bB}{w w':a0}{z:aD}{zs:List Int}
section
open Go.RowKit
theorem MX {α:Type}{p:List α→Prop}(nil:p [])(snoc:∀r a,p r→p (r++ [a]))(l:List α):p l:=by
 have h:∀r:List α,p r.reverse:=by
  intro r
  induction r with
  | nil=>exact nil
  | cons a r ih=>rw [List.reverse_cons];exact snoc _ _ ih
 have:=h l.reverse
 rwa [List.reverse_reverse] at this
theorem sH (hb:∀b,b∈bs→b<256)(hi:i<bs.length)(h:i<(aM bs).size):((aM bs)[i]'h).toNat=bs.getD i 0:=by
 have e:(aM bs)[i]'h=UInt8.ofNat (bs.getD i 0):=by
  show ((bs.map UInt8.ofNat).toArray)[i]'(by simpa using hi)=_
  rw [List.getElem_toArray,List.getElem_map,bE,bR hi];rfl
 rw [e,UInt8.toNat_ofNat']
 refine Nat.mod_eq_of_lt ?_
 rw [bE,bR hi]
 exact hb _ (lO hi)
def It (w:a0)(g:Nat)(bs:List Nat)(pos:Nat):Prop:=w.heap[g]?=some (.stringIter (aM bs) pos)
theorem It.lt {pos:Nat}(h:It w g bs pos):g<w.heap.size:=(Array.getElem?_eq_some_iff.1 h).1
theorem It.ext {pos:Nat}(h:It w g bs pos)(e:Ext w w'):It w' g bs pos:=e.heap h
theorem It.updO {pos:Nat}(h:It w g bs pos)(e:UpdO A w w')(hne:∀p,A=some p→p.block≠g):It w' g bs pos:=e.heap h hne
theorem GV {t pos:Nat}(h:Own w b t s A n c us)(hi:It w g bs pos):∀p,A=some p→p.block≠g:=fun p f e=>by
 rcases h with⟨h,_⟩ | ⟨k,cs,q,_,o,_⟩
 ·rw [h] at f;cases f
 ·rw [q] at f;cases f
  simp only at e
  subst e
  unfold Bk at o
  unfold It at hi
  rw [o] at hi
  cases hi
theorem Own.updI {t pos:Nat}(h:Own w b t s A n c us)(hi:It w g bs pos)(u:Upd g w w'):Own w' b t s A n c us:=h.upd u (GV h hi)
section
variable {P:bV}{Q:dH→Act→a0→Prop}{n:Nat}{l:Fr}{w:a0}{ops:Array bB}{rest:List bB}{d:Nat}{ty:aV}{pos:String}{af:Array fD}{gd:Option (Nat×Bool)}
theorem LC {x:cG}(hw:d5 ops l gd=some true)(hx:bP l x=some (.string (aM bs)))(ht:P.underlying t=some .string)(hn:d<n)(h:∀g w',w.heap.size=g→It w' g bs 0→Ext w w'→wl P ops Q n rest ((d,a4 g 0)::l) w'):wl P ops Q n (⟨some d,.range t x,ty,pos,af,gd⟩::rest) l w:=by
 refine fJ hw hn (fun a' f=>?_) (h _ (w.iter (aM bs) 0) G (World.iter_heap w _ 0) ((Ext.refl w).alloc _))
 have e:(Instr.range t (a'.eval x)).run P w= .ok (a4 w.heap.size 0) (w.iter (aM bs) 0):=by rw [f.ev hx];exact run_range_string w t _ ht
 show ((Instr.range t (a'.eval x)>>=fun r=>pure (gE r):Sem fU)).run P w=_
 rw [cA,e];rfl
theorem OX (h:It w g bs p)(hp:p<bs.length)(ty:aV):∃w',(Instr.next (a4 g 0) true ty).run P w= .ok (.tuple #[no,a9 (p:Int),.int .i32 ((Utf8.decode (aM bs) p).1:Int)]) w'∧It w' g bs (p+(Utf8.decode (aM bs) p).2)∧Upd g w w':=by
 have hs:p<(aM bs).size:=by rw [dU];exact hp
 refine⟨{w with heap:=w.heap.setIfInBounds g (.stringIter (aM bs) (p+(Utf8.decode (aM bs) p).2))},?_,?_,?_⟩
 ·unfold It at h
  simp only [Instr.next,getObj,setObj,cA,Sem.run,h,Result.andThen,hs,if_true]
  simp [goInt]
 ·unfold It
  have:=h.lt
  simp [this]
 ·refine⟨⟨rfl,rfl,rfl,by simp,fun k _ f=>?_⟩⟩
  have:g≠k:=fun e=>f (by rw [e])
  simp [this]
theorem OW (h:It w g bs p)(hp:¬p<bs.length)(ty:aV):(Instr.next (a4 g 0) true ty).run P w= .ok (.tuple #[t9]) w:=by
 have hs:¬p<(aM bs).size:=by rw [dU];exact hp
 unfold It at h
 simp [Instr.next,getObj,Sem.run,h,hs]
theorem LG {x:cG}(hw:d5 ops l gd=some true)(hx:bP l x=some (a4 g 0))(h:It w g bs p)(hp:p<bs.length)(hn:d<n)(k:∀w',It w' g bs (p+(Utf8.decode (aM bs) p).2)→Upd g w w'→wl P ops Q n rest ((d,.tuple #[no,a9 (p:Int),.int .i32 ((Utf8.decode (aM bs) p).1:Int)])::l) w'):wl P ops Q n (⟨some d,.next x true,ty,pos,af,gd⟩::rest) l w:=by
 obtain⟨w',hr,h1,h2⟩:=OX (P:=P) h hp ty
 refine fJ hw hn (fun a' f=>?_) (k w' h1 h2)
 have e:(Instr.next (a'.eval x) true ty).run P w= .ok (.tuple #[no,a9 (p:Int),.int .i32 ((Utf8.decode (aM bs) p).1:Int)]) w':=by rw [f.ev hx];exact hr
 show ((Instr.next (a'.eval x) true ty>>=fun r=>pure (gE r):Sem fU)).run P w=_
 rw [cA,e];rfl
theorem LE {x:cG}(hw:d5 ops l gd=some true)(hx:bP l x=some (a4 g 0))(h:It w g bs p)(hp:¬p<bs.length)(hn:d<n)(k:wl P ops Q n rest ((d,.tuple #[t9])::l) w):wl P ops Q n (⟨some d,.next x true,ty,pos,af,gd⟩::rest) l w:=by
 refine fJ hw hn (fun a' f=>?_) k
 have e:(Instr.next (a'.eval x) true ty).run P w= .ok (.tuple #[t9]) w:=by rw [f.ev hx];exact OW (P:=P) h hp ty
 show ((Instr.next (a'.eval x) true ty>>=fun r=>pure (gE r):Sem fU)).run P w=_
 rw [cA,e];rfl
end
def dv (c:Nat):Nat:=if 48≤c∧c≤57 then c-48 else if 97≤c∧c≤122 then c-87 else if 65≤c∧c≤90 then c-55 else 36
theorem V1 (c:Nat):dv c≤36:=by unfold dv;split <;> (try split) <;> (try split) <;> omega
theorem BF (h:128≤c):dv c=36:=by unfold dv;rw [if_neg (by omega),if_neg (by omega),if_neg (by omega)]
theorem VT (hb:∀b,b∈bs→b<256)(hp:p<bs.length)(h:bs.getD p 0<128):Utf8.decode (aM bs) p=(bs.getD p 0,1):=by
 have hs:p<(aM bs).size:=by rw [dU];exact hp
 have e:=sH hb hp hs
 rw [decode_ascii (aM bs) p hs (by rw [e];exact h),e]
def d4 (b:Nat)(ds:List Nat):Nat:=ds.foldl (fun a d=>a*b+d) 0
theorem uH (b:Nat)(ds:List Nat)(d:Nat):d4 b (ds++ [d])=d4 b ds*b+d:=by unfold d4;rw [List.foldl_append];rfl
theorem yO (b a:Nat):∀ds:List Nat,ds.foldl (fun a d=>a*b+d) a=a*b^ds.length+d4 b ds
 | []=>by simp [d4]
 | d::ds=>by
  have e:d4 b (d::ds)=(0*b+d)*b^ds.length+d4 b ds:=by
   unfold d4;rw [List.foldl_cons];exact yO b _ ds
  rw [List.foldl_cons,yO b _ ds,e,gD,dJ]
  simp only [Nat.zero_mul,eQ,dO,bY]
  rw [cY b (b^ds.length)]
  omega
theorem D9 (b:Nat)(xs ys:List Nat):d4 b (xs++ys)=d4 b xs*b^ys.length+d4 b ys:=by
 unfold d4
 rw [List.foldl_append,yO]
 rfl
theorem yN (_hb:1≤b):∀ds:List Nat,(∀d,d∈ds→d<b)→d4 b ds<b^ds.length:=by
 intro ds
 induction ds using MX with
 | nil=>intro _;simp [d4]
 | snoc r a ih=>
  intro h
  have h1:=ih fun d e=>h d (by simp [e])
  have h2:=h a (by simp)
  rw [uH,eN,List.length_singleton,dJ]
  have f:(d4 b r+1)*b≤b^r.length*b:=eC b h1
  rw [dO,Nat.one_mul] at f
  omega
def fR (b:Nat)(bs:List Nat):Prop:=bs≠ []∧∀c,c∈bs→dv c<b
end
section
open Go.ChangeShapes Go.WideShapes Go.ChangeAt Go.RowKit
theorem MO (s:ByteArray):∃bs:List Nat,s=aM bs∧(∀b,b∈bs→b<256)∧bs.length=s.size:=by
 refine⟨s.data.toList.map UInt8.toNat,?_,?_,?_⟩
 ·unfold aM
  rw [List.map_map]
  have:(UInt8.ofNat∘UInt8.toNat)=id:=funext fun x=>UInt8.ofNat_toNat
  rw [this,List.map_id]
 ·intro b hb
  obtain⟨x,_,rfl⟩:=lN.1 hb
  exact x.toNat_lt
 ·rw [List.length_map,Array.length_toList];rfl
theorem MQ {b:List Nat}(ha:∀x,x∈a→x<256)(hb:∀x,x∈b→x<256)(h:aM a=aM b):a=b:=by
 have hl:a.length=b.length:=by rw [←dU a,h,dU]
 refine List.ext_getElem hl fun i h1 h2=>?_
 have f:=sH ha h1 (by rw [dU];exact h1)
 have o:=sH hb h2 (by rw [dU];exact h2)
 have e:((aM a)[i]'(by rw [dU];exact h1)).toNat=((aM b)[i]'(by rw [dU];exact h2)).toNat:=by
  congr 1;simp only [h]
 rw [f,o,bE,bR h1,bE,bR h2] at e
 exact e
def oU (o:BinOp)(a b:List Nat):Option Bool:=match o with
 | .eql=>some (decide (a=b))
 | .neq=>some (!decide (a=b))
 | _=>none
theorem MF {a b:ByteArray}(h:a.toList=b.toList):a=b:=by
 rw [ByteArray.toList_eq,ByteArray.toList_eq] at h
 exact Go.WideShapes.bytes_inj h
section
variable {P:bV}{Q:dH→Act→a0→Prop}{n:Nat}{l:Fr}{w:a0}{ops:Array bB}{rest:List bB}{d:Nat}{ty:aV}{pos:String}{af:Array fD}{gd:Option (Nat×Bool)}
theorem OS {x y:cG}{b:List Nat}(ha:∀x,x∈a→x<256)(hb:∀x,x∈b→x<256)(hr:oU o a b=some r):((do eqGuard o t x y (.string (aM a)) (.string (aM b));binOp o t (.string (aM a)) (.string (aM b))):Sem aD).run P w= .ok (.bool r) w:=by
 have key:((aM a).toList==(aM b).toList)=decide (a=b):=by
  by_cases h:a=b
  ·subst h;simp
  ·rw [decide_eq_false h,beq_eq_false_iff_ne]
   exact fun e=>h (MQ ha hb (MF e))
 cases o <;> simp only [oU,reduceCtorEq,eH] at hr
 ·subst hr;simp [eqGuard,binOp,Op.stringOp,key]
 ·subst hr;simp [eqGuard,binOp,Op.stringOp,key]
theorem q9 {t':aV}{x y:cG}{b:List Nat}(hw:d5 ops l gd=some true)(hx:bP l x=some (.string (aM a)))(hy:bP l y=some (.string (aM b)))(ha:∀x,x∈a→x<256)(hb:∀x,x∈b→x<256)(r:Bool)(hr:oU o a b=some r)(h:wl P ops Q n rest ((d,.bool r)::l) w)(hn:d<n:=by decide):wl P ops Q n (⟨some d,.binOp o t x y t',ty,pos,af,gd⟩::rest) l w:=
 fJ hw hn (fun a' ha'=>by
  have e:((do eqGuard o t x y (a'.eval x) (a'.eval y);binOp o t (a'.eval x) (a'.eval y)):Sem aD).run P w= .ok (.bool r) w:=by
   rw [ha'.ev hx,ha'.ev hy];exact OS ha hb hr
  show ((((do eqGuard o t x y (a'.eval x) (a'.eval y);binOp o t (a'.eval x) (a'.eval y)):Sem aD)>>=fun r=>pure (gE r)):Sem fU).run P w=_
  rw [cA,e];rfl) h
end
end
section
open Go.RowKit
section
variable {P:bV}
theorem P0 (ht:P.underlying t=some (.slice e))(hinfo:(P.info? e).map (fun i=>(i.zero,i.size,i.bytes))=some (some z,1,bytes))(hzs:z.cells.size=1)(hby:bytes≤64)(hg:base≤g)(hb:base≤w.heap.size)(hk:Bk w g e [])(hr:Rv w 1 S m c news)(h1:∀u∈news,u.oneCell'=true)(hm:m≤1099511627776):∃A' cap' w',(lP #[t,t] ty #[i9 (some ⟨g,0,none⟩) 0 0,i9 S m c]).run P w= .ok (i9 A' m cap') w'∧Own w' base e 1 A' m cap' news∧Ext w w':=by
 obtain⟨i,hi,I,E,r⟩:=oC hinfo
 have f:Own w base e 1 (some ⟨g,0,none⟩) 0 0 []:=Own.mk_ hg hk (aX _) (bJ _) G rfl
 have hl:=hr.len
 have o:m=0→news= []:=fun h=>List.eq_nil_of_length_eq_zero (by rw [hl,h])
 cases S with
 | none=>
  have h0:m=0:=by
   rcases kC m with h0 | h0
   ·exact h0
   ·obtain⟨ad,h,_⟩:=hr.get 0 (by omega)
    cases h
  rw [o h0,h0]
  exact⟨_,_,w,ET (P:=P) w base t ty e i 1 ht hi _ 0 [] f.row c,f,Ext.refl w⟩
 | some a=>
  by_cases h0:m=0
  ·rw [o h0,h0]
   have D:=run_firstCells_some (P:=P) (w:=w) i.size 0 a 0 c [] (by simp) (by simp)
   exact⟨_,_,w,by simp [lP,kK ht,sizeOf,typeInfo,hi,Builtin.lenOf,D,storeCells],f,Ext.refl w⟩
  ·obtain⟨v',w',q,h2,M⟩:=run_append_arg_grows (P:=P) w t ty e i z 1 bytes ht hi I E r hzs (by decide) ⟨g,0,none⟩ 0 0 [] G (fun j u hj=>by simp at hj) a m c news hl
    (fun j u F=>by
     have hj:j<news.length:=(List.getElem?_eq_some_iff.1 F).1
     obtain⟨a',ha',U⟩:=hr.get j (by rw [←hl];exact hj)
     cases ha'
     rw [U,←F,bE,bR hj]
     rfl) (by omega) (by rw [eA];omega) (by
     have:(0+m)*bytes≤1099511627776*64:=j3 (by omega) hby
     omega)
   obtain⟨A',cap',rfl,H⟩:=Own.of_row h2
   rw [eQ,List.nil_append] at H
   rw [eQ] at q
   exact⟨A',cap',w',q,H.mono hb,(UpdO.of (A:=none) M).ext (Ext.refl w) (fun p L=>by cases L)⟩
variable {Q:dH→Act→a0→Prop}{n:Nat}{l:Fr}{w:a0}{ops:Array bB}{rest:List bB}{d:Nat}{ty:aV}{pos:String}{af:Array fD}{gd:Option (Nat×Bool)}
theorem LP {x y:cG}(hw:d5 ops l gd=some true)(hx:bP l x=some (i9 (some ⟨g,0,none⟩) 0 0))(hy:bP l y=some (i9 S m c))(ht:P.underlying t=some (.slice e))(hinfo:(P.info? e).map (fun i=>(i.zero,i.size,i.bytes))=some (some z,1,bytes))(hzs:z.cells.size=1)(hby:bytes≤64)(hg:base≤g)(hb:base≤w.heap.size)(hk:Bk w g e [])(hr:Rv w 1 S m c news)(h1:∀u∈news,u.oneCell'=true)(hm:m≤1099511627776)(hn:d<n)(h:∀A' cap' w',Own w' base e 1 A' m cap' news→Ext w w'→wl P ops Q n rest ((d,i9 A' m cap')::l) w'):wl P ops Q n (⟨some d,.call {callee:= .builtin .append,args:= #[x,y],argTypes:= #[t,t]},ty,pos,af,gd⟩::rest) l w:=by
 obtain⟨A',cap',w',hr,h2,o⟩:=P0 (P:=P) (ty:=ty) ht hinfo hzs hby hg hb hk hr h1 hm
 refine fJ hw hn (fun a' f=>?_) (h A' cap' w' h2 o)
 unfold execOp
 simp only [resolve,invoke,builtin,cA,Sem.run_pure,eG,List.map_toArray,iJ,j7,f.ev hx,f.ev hy]
 rw [hr]
 rfl
end
theorem R7 (k:Nat):(madeCells (Value.agg #[t9,i9 none 0 0]).cells (k*2)).toList=jQ (cJ k ZC.zero):=by
 refine List.ext_getElem ?_ fun j h1 h2=>?_
 ·rw [Array.length_toList,size_madeCells,yE,List.length_replicate]
 ·have hj:j<k*2:=by simpa [size_madeCells] using h1
  have p:(madeCells (Value.agg #[t9,i9 none 0 0]).cells (k*2)).toList[j]= #[Value.bool false,i9 none 0 0][j%2]!:=by
   simp [madeCells,Value.cells]
  rw [p]
  have f:j/2<(cJ k ZC.zero).length:=by rw [List.length_replicate];omega
  have o:(cJ k ZC.zero).getD (j/2) ZC.zero=ZC.zero:=by
   rw [bE,List.getElem?_replicate];split <;> rfl
  rcases Nat.mod_two_eq_zero_or_one j with h | h
  ·have e:=uD (cJ k ZC.zero) (j/2) f
   rw [show j/2*2=j by omega,bR h2,o] at e
   injection e with e
   rw [e,h];rfl
  ·have e:=uC (cJ k ZC.zero) (j/2) f
   rw [show j/2*2+1=j by omega,bR h2,o] at e
   injection e with e
   rw [e,h];rfl
section
variable {Q:dH→Act→a0→Prop}{N:Nat}{l:Fr}{w:a0}{ops:Array bB}{rest:List bB}{d:Nat}{ty:aV}{pos:String}{af:Array fD}{gd:Option (Nat×Bool)}
theorem D2 {x y:cG}(m:Option a0)(K b:Nat)(hw:d5 ops l gd=some true)(hx:bP l x=some (a9 (k:Int)))(hy:bP l y=some (a9 (k:Int)))(hk:k≤1099511627776)(hd:d<N)(h:∀g w',w.heap.size=g→Lz m K b w' g (some ⟨g,0,none⟩) k k (cJ k 0)→Ext w w'→wl aH ops Q N rest ((d,i9 (some ⟨g,0,none⟩) k k)::l) w'):wl aH ops Q N (⟨some d,.makeSlice 25 x y,ty,pos,af,gd⟩::rest) l w:=by
 obtain⟨i,hi,q,D,p⟩:=oC GY
 have hr:=run_make (P:=aH) w 25 24 i _ fQ hi q .i64 .i64 (k:Int) (k:Int) (by omega) (by omega) (by rw [p];omega) (by omega)
 rw [gX,D] at hr
 obtain⟨cs,o,f⟩:∃cs:List aD,madeCells (Value.agg #[.bool false,.slice none 0 0]).cells (k*2)=cs.toArray∧cs=jQ (cJ k ZC.zero):=⟨(madeCells (Value.agg #[t9,i9 none 0 0]).cells (k*2)).toList,Array.toArray_toList.symm,R7 k⟩
 rw [o] at hr
 have e:cs.length=k*2:=by rw [f,yE,List.length_replicate]
 refine fJ hw hd (fun a' E=>?_) (h _ (w.alloc (.cells cs.toArray 24)) G ⟨cJ k ZC.zero,bT ⟨w.heap.size,cs,rfl,aX _,Bk.new _ _ _,aX _,by rw [eA];omega,e,by rw [List.take_of_length_le (by omega)];exact f⟩,List.length_replicate ..,List.length_replicate ..,fun i hi=>?_⟩ ((Ext.refl w).alloc _))
 ·have e':(oK 25 (a'.eval x) (a'.eval y)).run aH w= .ok (i9 (some ⟨w.heap.size,0,none⟩) k k) (w.alloc (.cells cs.toArray 24)):=by rw [E.ev hx,E.ev hy];exact hr
  show ((oK 25 (a'.eval x) (a'.eval y)>>=fun r=>pure (gE r):Sem fU)).run aH w=_
  rw [cA,e'];rfl
 ·have H:(cJ k ZC.zero).getD i ZC.zero=ZC.zero:=by rw [bE,List.getElem?_replicate];split <;> rfl
  have F:(cJ k (0:Int)).getD i 0=0:=by rw [bE,List.getElem?_replicate];split <;> rfl
  rw [H,F]
  exact⟨bJ _,cD Zr.zero⟩
end
def mN (zs:List Int)(n k:Nat):List Int:=zs.take k++cJ (n-k) 0
theorem LX (zs:List Int)(n:Nat):cJ n 0=mN zs n 0:=by simp [mN]
theorem LZ (h:zs.length=n):mN zs n n=zs:=by simp [mN,←h]
theorem LY (h:zs.length=n)(hk:k<n):(mN zs n k).set k (zs.getD k 0)=mN zs n (k+1):=by
 unfold mN
 rw [List.set_append_right _ _ (by rw [dE];omega),dE,g7 (by omega),Nat.sub_self,show n-k=(n-(k+1))+1 by omega,List.replicate_succ,List.set_cons_zero]
 rw [show zs.take (k+1)=zs.take k++ [zs.getD k 0] by rw [List.take_add_one,bE,bR (by omega)];rfl,List.append_assoc]
 rfl
def ZOR (b:Nat)(s:Bool)(n:Nat)(z:Int)(v:aD)(w:a0):Prop:=∃A c,v= J s A n c∧Zo w b s A n c z
theorem ZOR.imp {s:Bool}{z:Int}(h:b'≤b):∀v w,ZOR b s n z v w→ZOR b' s n z v w:=fun _ _ ⟨A,c,h1,h2⟩=>⟨A,c,h1,h2.mono h⟩
theorem S9 (hs:s≤64)(hx:x*2^s≤9223372036854775807)(P:bV)(t:aV)(w:a0):(binOp .shl t (a9 (x:Int)) (i5 (s:Int))).run P w= .ok (a9 ((x*2^s:Nat):Int)) w:=by
 have e:((x:Int)*2^min (s:Int).toNat IntKind.i64.bits)=((x*2^s:Nat):Int):=by
  rw [gX,show min s IntKind.i64.bits=s from g7 hs];simp
 simp only [binOp]
 rw [shift_shl_any _ _ _ _ (by omega),e,IntWalk.i64_in _ ⟨by omega,by omega⟩];rfl
def zQ (e:ZC):aD:= i9 e.A e.n e.c
def Pw (w:a0)(pb:Nat)(PA:Option a8)(pn pc unit:Nat):Prop:=∃es:List ZC,Own w pb 22 1 PA pn pc (es.map zQ)∧es.length=pn∧
 ∀i,i<pn→(es.getD i ZC.zero).n=(wd (unit^2^i)).length∧(es.getD i ZC.zero).n≤8388608∧Own w 0 65 1 (es.getD i ZC.zero).A (es.getD i ZC.zero).n (es.getD i ZC.zero).c ((wd (unit^2^i)).map bC)
theorem Pw.nil (w:a0)(pb unit:Nat):Pw w pb none 0 0 unit:=⟨[],Own.nil _ _ _ _,rfl,fun i hi=>by omega⟩
theorem Pw.ext {pc:Nat}(h:Pw w pb PA pn pc unit)(e:Ext w w'):Pw w' pb PA pn pc unit:=by
 obtain⟨es,h1,h2,f⟩:=h
 exact⟨es,h1.ext e,h2,fun i hi=>⟨(f i hi).1,(f i hi).2.1,(f i hi).2.2.ext e⟩⟩
theorem Pw.updW {pc:Nat}(h:Pw w pb PA pn pc unit)(u:UpdW lb w w'):Pw w' pb PA pn pc unit:=by
 obtain⟨es,h1,h2,e⟩:=h
 exact⟨es,u.own h1 (by decide) (by decide),h2,fun i hi=>⟨(e i hi).1,(e i hi).2.1,u.own (e i hi).2.2 (by decide) (by decide)⟩⟩
theorem Pw.updT {pc:Nat}(h:Pw w pb PA pn pc unit)(hb:Bk w g T us)(u:Upd g w w')(h1:22≠T)(h2:65≠T):Pw w' pb PA pn pc unit:=by
 obtain⟨es,f,o,e⟩:=h
 exact⟨es,f.updT hb h1 u,o,fun i hi=>⟨(e i hi).1,(e i hi).2.1,(e i hi).2.2.updT hb h2 u⟩⟩
theorem Pw.at {pc:Nat}(h:Pw w pb PA pn pc unit)(hi:i<pn):∃p A n c,PA.map (·.add (i*1))=some p∧w.cell? p=some (i9 A n c)∧n=(wd (unit^2^i)).length∧n≤8388608∧Own w 0 65 1 A n c ((wd (unit^2^i)).map bC):=by
 obtain⟨es,h1,h2,E⟩:=h
 obtain⟨a,o,f⟩:=h1.rv.get i (by omega)
 have e:(es.map zQ).getD i undef=zQ (es.getD i ZC.zero):=by
  simp [bE,iK,bR (show i<es.length by omega)]
 rw [e] at f
 obtain⟨D,r,q⟩:=E i hi
 exact⟨a.add i,_,_,_,by rw [o,dK];rfl,f,D,r,q⟩
theorem Pw.mono {pb':Nat}{pc:Nat}(h:Pw w pb PA pn pc unit)(hb:pb'≤pb):Pw w pb' PA pn pc unit:=by
 obtain⟨es,h1,h2,e⟩:=h
 exact⟨es,h1.mono hb,h2,e⟩
theorem LO {Q:dH→Act→a0→Prop}{l:Fr}{pos:String}{x y:cG}{pc qc:Nat}(hw:d5 ops l gd=some true)(hx:bP l x=some (i9 PA pn pc))(hy:bP l y=some (i9 (some ⟨g,0,none⟩) 1 c))(h:Pw w pb PA pn pc unit)(hpb:pb≤w.heap.size)(hb:Bk w g 22 [i9 A n qc])(hn:n=(wd (unit^2^pn)).length)(hn8:n≤8388608)(ho:Own w b 65 1 A n qc ((wd (unit^2^pn)).map bC))(hm:pn≤64)(hd:d<N)(k:∀A' c' w',Pw w' pb A' (pn+1) c' unit→UpdO PA w w'→(∃us,Own w pb 22 1 PA pn pc us)→wl aH ops Q N rest ((d,i9 A' (pn+1) c')::l) w'):wl aH ops Q N (⟨some d,.call {callee:= .builtin .append,args:= #[x,y],argTypes:= #[36,36]},ty,pos,af,gd⟩::rest) l w:=by
 obtain⟨es,h1,h2,o⟩:=h
 refine oM hw hx hy kE sZ G h1 hpb [i9 A n qc] G (qQ _ hb) G (hn:=hd) fun A' c' w' ho' f _=>k A' c' w' ?_ f ⟨_,h1⟩
 refine⟨es++ [⟨false,A,n,qc⟩],by rw [List.map_append];exact ho',by simp [h2],fun i hi=>?_⟩
 by_cases e:i<pn
 ·rw [SS (by omega)]
  exact⟨(o i e).1,(o i e).2.1,(o i e).2.2.updOT h1 (by decide) f⟩
 ·have q:i=pn:=by omega
  subst q
  have p:(es++ [(⟨false,A,n,qc⟩:ZC)]).getD i ZC.zero=⟨false,A,n,qc⟩:=by rw [←h2];exact SR
  rw [p]
  exact⟨hn,hn8,(ho.mono (bJ b)).updOT h1 (by decide) f⟩
theorem WE (h:Bk w g 65 [i5 x])(hx:x≤18446744073709551615)(h0:x≠0):Own w 0 65 1 (some ⟨g,0,none⟩) 1 1 ((wd x).map bC):=
 qO (Own.mk_ (bJ _) h (aX _) (by rw [eA];omega) G G) hx h0
theorem FE:u^2^j*u^2^j=u^2^(j+1):=by rw [←dX,dJ];congr 1;omega
theorem RE (h:(wd p).length≤n):(wd (p*p)).length≤2*n:=by
 refine iQ ?_
 have h1:=kH p
 have h2:p<WB^n:=cS h1 (eW (by rw [cC];decide) h)
 rw [Nat.two_mul,dX]
 exact Nat.mul_lt_mul'' h2 h2
theorem uY (hx:Wi w A n c m)(hy:Wi w B n' c' m')(hl:n≤1099511627776:=by omega)(hl':n'≤1099511627776:=by omega):aQ aH 144 #[i9 A n c,i9 B n' c'] w (Gv w (Is (a9 (cX m m')))):=by
 obtain⟨xs,h1,rfl⟩:=hx
 obtain⟨ys,h2,rfl⟩:=hy
 refine (qS h1 h2 (hl:=hl) (hl':=hl')).mono fun e w' h=>?_
 obtain⟨d,o,_,_,rfl,f⟩:=h
 exact⟨_,rfl,(show d8 .i64 d=_ by rw [o.out]),f⟩
theorem OL (hb:b≤w.heap.size)(hx:Wi w A n c m)(hl:n≤274877906944)(hy:Wi w B n' c' m')(hl':n'≤274877906944)(h0:m'≠0):aQ aH 199 #[i9 A n c,i9 B n' c'] w (Gv w (T3 (WR b (m/m')) (WR b (m%m')) (Is (a9 0)))):=by
 obtain⟨xs,h1,rfl⟩:=hx
 obtain⟨ys,h2,rfl⟩:=hy
 refine (BG h1 hl h2 hl' h0).mono fun e w' h=>?_
 obtain⟨A,n,cap,B,m,cap',rfl,o,_,r,q,_,p,f⟩:=h
 exact⟨_,rfl,⟨_,_,_,rfl,⟨A,n,cap,rfl,o.out,r.mono hb⟩,⟨B,m,cap',rfl,q.out,p.mono hb⟩,rfl⟩,f⟩
theorem uV (hb:b≤w.heap.size)(hx:Wi w A n c m)(hl:n≤137438953472:=by omega):aQ aH 198 #[i9 A n c] w (Gv w (WR b (m*m))):=by
 obtain⟨xs,h1,rfl⟩:=hx
 exact (QX h1 hl).mono (gw hb)
theorem W0 (h:x<y):cV .lss (cX x y) 0=some true:=p8 (lF.2 h)
theorem W3 (h:y≤x):cV .lss (cX x y) 0=some false:=mT (h:=(by have:=lF (a:=x) (b:=y);omega))
theorem W4 (h:x≤y):cV .leq (cX x y) 0=some true:=GP (by have:=tG (a:=x) (b:=y);omega)
theorem W5 (h:y<x):cV .leq (cX x y) 0=some false:=GQ (tG.2 h)
theorem FH (hu:2≤u)(h:u^2^ip≤m)(hl:(wd m).length≤an):2^ip≤64*an:=by
 have h1:=kH m
 rw [mY,←Nat.pow_mul] at h1
 have h2:2^2^ip≤u^2^ip:=Nat.pow_le_pow_left hu _
 have e:2^(64*(wd m).length)≤2^(64*an):=eW (by decide) (fN _ hl)
 exact Nat.le_of_lt ((Nat.pow_lt_pow_iff_right (by decide)).1 (jL h2 (jL h (cS h1 e))))
theorem GW (h:2^ip≤n)(hn:n≤268435456):ip≤28:=by
 refine Nat.le_of_not_lt fun h2=>?_
 have e:2^29≤2^ip:=eW (by decide) h2
 omega
theorem M1 (hb:2≤b)(h:(b^k)^2^ip≤m)(h0:0<(b^k)^2^ip):dM (dV (db b (m/(b^k)^2^ip)) (width-k*2^ip))++dM (dV (db b (m%(b^k)^2^ip)) (k*2^ip))=dM (dV (db b m) width):=by
 have e:(b^k)^2^ip=b^(k*2^ip):=by rw [←Nat.pow_mul]
 rw [e] at h h0⊢
 have f:m/b^(k*2^ip)≠0:=by have:=Nat.div_pos h h0;omega
 have hr:(db b (m%b^(k*2^ip))).length≤k*2^ip:=jI hb (fV _ h0)
 have hl:(dV (db b (m%b^(k*2^ip))) (k*2^ip)).length=k*2^ip:=by rw [pD];omega
 rw [←uJ,FJ,←wW hb f,hl]
 by_cases o:k*2^ip≤width
 ·rw [show k*2^ip+(width-k*2^ip)=width by omega]
 ·have h2:k*2^ip≤(db b m).length:=by rw [wW hb f,eN,hl];omega
  rw [qM (by omega),qM (by omega)]
theorem M4 (hb:2≤b)(h:(b^k)^2^ip≤m)(h0:0<(b^k)^2^ip):max (width-k*2^ip) (db b (m/(b^k)^2^ip)).length+k*2^ip=max width (db b m).length∨(width<k*2^ip∧(db b (m/(b^k)^2^ip)).length+k*2^ip=(db b m).length):=by
 have e:(b^k)^2^ip=b^(k*2^ip):=by rw [←Nat.pow_mul]
 rw [e] at h h0⊢
 have f:m/b^(k*2^ip)≠0:=by have:=Nat.div_pos h h0;omega
 have hr:(db b (m%b^(k*2^ip))).length≤k*2^ip:=jI hb (fV _ h0)
 have hl:(dV (db b (m%b^(k*2^ip))) (k*2^ip)).length=k*2^ip:=by rw [pD];omega
 have h2:(db b m).length=k*2^ip+(db b (m/b^(k*2^ip))).length:=by rw [wW hb f,eN,hl]
 omega
def xN (ip:Nat):Prop:=∀{w:a0}{g base k unit:Nat}{PA:Option a8}{pn pc:Nat}{OA:Option a8}{on oc lb:Nat}{bs:List Nat}{A:Option a8}{an ac m width:Nat}{ii:Int}(_:ii=(ip:Int)-1) (_:Signs w) (_:4<lb) (_:2≤base) (_:base≤36) (_:Wr w g base k unit PA pn pc OA on oc)
 (_:Own w lb 5 1 OA on oc (bs.map B8)) (_:lb≤g) (_:lb≤w.heap.size) (_:Wi w A an ac m) (_:an≤4194304) (_:unit=base^k) (_:PieceK base k) (_:width≤137438953472) (_:on+max width (db base m).length≤137438953472) (_:Pw w 0 PA pn pc unit) (_:ip≤pn) (_:pn≤64),
 aQ aH 228 #[a4 g 0,i9 A an ac,a9 ii,a9 width] w (xI w lb g base k unit PA pn pc OA (bs++dM (dV (db base m) width)))
theorem SG:xN 0:=by
 intro w g base k unit PA pn pc OA on oc lb bs A an ac m width ii _ H o r E F I D q L f e h p _ _ _ _
 obtain rfl:ii= -1:=by omega
 exact EI H o r E F I D q L f e h p (by omega)
theorem SI (ih:xN ip):xN (ip+1):=by
 intro w g base k unit PA pn pc OA on oc lb bs A an ac m width ii _ hS H p X hW hO W V ha ag f F dz _ hP _ ai
 obtain rfl:ii=(ip:Int):=by omega
 have ae:(wd m).length≤4194304:=aE ha.len ag
 have cx:1≤k:=by refine Nat.pos_of_ne_zero (fun e=>?_);have:=F.gt;rw [e,eQ,Nat.pow_one] at this;omega
 have du:2≤unit:=by rw [f];exact aE p (aE (Nat.le_of_eq (Nat.pow_one base).symm) (eW (by omega) cx))
 refine bL Tryz.func228 G (n:=74) G (bq G) (args:= [a4 g 0,i9 A an ac,a9 (ip:Int),a9 width]) (bF [(0,a4 g 0),(1,i9 A an ac),(2,a9 (ip:Int)),(3,a9 width)] ⟨rfl,rfl,rfl,rfl,up⟩ (a7 (a7 ?_)))
 by_cases el:an≤12
 ·refine a6 (mv 1 G (aA G G G false (mT) (mv 2 G (pu (v:= a9 an) G (aA G G G true (m4 (a:=an) (b:=12) G G) (pu (v:= no) G (a1 (aY G (sr (mv 3 G (d9 G G (vs:= [a4 g 0,i9 A an ac,a9 width]) (by kernel_rfl) (by decide) (EF hS H p X hW hO W (aE V (UpdW.refl lb w).size) ha ag f F dz (by omega)) ?_)))))))))))
  rintro _ v1 ⟨rfl,A2,_,_,eg,dg,eh,ei⟩
  refine dA ?_
  have q:UpdW lb w v1:=(UpdW.refl lb w).then eh
  have dx:=(Kept.refl w OA).next ei (UpdW.refl lb w).size
  refine a1 (aU (bU (aT [] G up ?_)))
  exact⟨rfl,A2,_,_,eg,dg,q,dx⟩
 ·refine a6 (mv 1 G (aA G G G false (mT) (mv 2 G (pu (v:= a9 an) G (aA G G G false (m5 (a:=an) (b:=12) G G) (pu (v:= t9) G (a1 (aN G (aW (aC (a7 (a7 ?_))))))))))))
  by_cases ea:m<unit^2^ip
  ·refine a6 (mv 2 G (pf g 0 G (pf g 3 G (aL G G (aP (fun _=>by kernel_rfl) hW G) (mv 1 G ?_)))))
   obtain⟨pp,BA,bn,bc,M,I,ba,aa,U⟩:=hP.at (i:=ip) (by omega)
   have Z:0<unit^2^ip:=gC (by rw [f];exact gC (by omega))
   refine bK G G G kE kN ip G pp M (aL G G (cT oB I) (d9 G G (vs:= [i9 A an ac,i9 BA bn bc]) (by kernel_rfl) (by decide) (uY ha U.wi) ?_))
   rintro _ av ⟨_,rfl,dm,D⟩
   refine dA ?_
   have q:UpdW lb w av:=(UpdW.refl lb w).trans D
   have bi:Ext w av:=(Ext.refl w).trans D
   obtain rfl:=dm
   refine aA G G G true (W0 ea) (a1 (aY G (sr (mv 3 G (aR G G G ((ip:Int)-1) (fH G) (mv 1 G (d9 G G (vs:= [a4 g 0,i9 A an ac,a9 ((ip:Int)-1),a9 width]) (by kernel_rfl) (by decide) (ih G (hS.ext D) H p X (hW.ext D) (hO.ext D) W (aE V q.size) (ha.ext D) ag f F (by omega) (by omega) (hP.ext D) (by omega) ai) ?_)))))))
   rintro _ da ⟨rfl,ee,_,_,bv,au,bt,bh⟩
   refine dA ?_
   have L:UpdW lb w da:=q.then bt
   have bo:=(Kept.refl w OA).next bh q.size
   refine a1 (aU (bU (aT [] G up ?_)))
   exact⟨rfl,ee,_,_,bv,au,L,bo⟩
  ·have ar:unit^2^ip≤m:=by omega
   have aj:=FH du ar ae
   have cv:=GW aj (by omega)
   have ej:k*2^ip≤64*268435456:=j3 F.le64 (by omega)
   have ab:(base^k)^2^ip≤m:=f▸ar
   have ak:0<(base^k)^2^ip:=gC (gC (by omega))
   have de:(wd (m/unit^2^ip)).length≤4194304:=aE (iP (eR _ _)) ae
   have dl:(wd (m%unit^2^ip)).length≤4194304:=aE (iP (Nat.mod_le _ _)) ae
   have en:(db base (m%unit^2^ip)).length≤k*2^ip:=jI p (by rw [Nat.pow_mul,←f];exact fV _ (f▸ak))
   have dt:=M4 (width:=width) p ab ak
   rw [←f] at dt
   refine a6 (mv 2 G (pf g 0 G (pf g 3 G (aL G G (aP (fun _=>by kernel_rfl) hW G) (mv 1 G ?_)))))
   obtain⟨pp,BA,bn,bc,M,I,ba,aa,U⟩:=hP.at (i:=ip) (by omega)
   have Z:0<unit^2^ip:=gC (by rw [f];exact gC (by omega))
   refine bK G G G kE kN ip G pp M (aL G G (cT oB I) (d9 G G (vs:= [i9 A an ac,i9 BA bn bc]) (by kernel_rfl) (by decide) (uY ha U.wi) ?_))
   rintro _ bz ⟨_,rfl,ef,h⟩
   refine dA ?_
   have q:UpdW lb w bz:=(UpdW.refl lb w).trans h
   have bi:Ext w bz:=(Ext.refl w).trans h
   obtain rfl:=ef
   refine aA G G G false (W3 (by omega)) (a1 (aN G (aW (aC (sr (mv 2 G (pf g 0 G (pf g 3 G (aL G G (aP (fun _=>by kernel_rfl) (hW.ext h) G) (mv 1 G ?_))))))))))
   obtain⟨pp,BA,bn,bc,M,I,ba,aa,U⟩:=(hP.ext h).at (i:=ip) (by omega)
   have Z:0<unit^2^ip:=gC (by rw [f];exact gC (by omega))
   refine bK G G G kE kN ip G pp M (aL G G (cT oB I) (d9 G G (vs:= [i9 A an ac,i9 BA bn bc]) (by kernel_rfl) (by decide) (OL (bJ _) (ha.ext h) (by omega) U.wi (by omega) (by omega)) ?_))
   rintro _ bg ⟨_,rfl,dh,o⟩
   refine dA ?_
   have L:UpdW lb w bg:=q.trans o
   have em:Ext w bg:=bi.trans o
   obtain⟨_,_,_,rfl,⟨bj,cg,bd,rfl,dy,dw⟩,⟨cf,bf,ci,rfl,cu,dr⟩,rfl⟩:=dh
   refine mv 1 G (pu (v:= i9 bj cg bd) G (pu (v:= i9 cf bf ci) G (pu (v:= a9 0) G (mv 3 G (a1 (sr (mv 1 G (pf g 0 G (pf g 1 G (aL G G (aP (fun _=>by kernel_rfl) (hW.ext (h.t o)) G) (mv 1 G (dF G G (v:= i5 (IntKind.u64.wrap ((ip:Nat):Int))) (v':= i5 ip) (jC (by omega)) (nI G G G (r:= a9 ((k*2^ip:Nat):Int)) G (fun w=>S9 (x:=k) (s:=ip) (by omega) (by omega) _ _ w) ?_)))))))))))))
   refine mv 1 G (a1 (sr (mv 3 G (aR G G G ((ip:Int)-1) (fH G) (mv 2 G (aR G G G (((width:Nat):Int)-((k*2^ip:Nat):Int)) (fH G) (uG G G G (((width-k*2^ip:Nat):Int)) (d9 G G (vs:= [a4 g 0,i9 bj cg bd,a9 ((ip:Int)-1),a9 ((width-k*2^ip:Nat):Int)]) (by kernel_rfl) (by decide) (ih G (hS.ext (h.t o)) H p X (hW.ext (h.t o)) (hO.ext (h.t o)) W (aE V L.size) dw.wi (by rw [dy];exact de) f F (by omega) (by omega) (hP.ext (h.t o)) (by omega) ai) ?_))))))))
   rintro _ dd ⟨rfl,_,_,_,aw,Y,E,ch⟩
   refine dA ?_
   have am:UpdW lb w dd:=L.then E
   have bw:=(Kept.refl w OA).next ch L.size
   refine a1 (a6 (mv 3 G (aR G G G ((ip:Int)-1) (fH G) (mv 1 G (d9 G G (vs:= [a4 g 0,i9 cf bf ci,a9 ((ip:Int)-1),a9 ((k*2^ip:Nat):Int)]) (by kernel_rfl) (by decide) (ih G (E.signs (hS.ext (h.t o)) H) H p X aw Y W (aE V am.size) (E.own dr (by decide) (by decide)).wi (by rw [cu];exact dl) f F (by omega) (by rw [mQ Y,eN,uI,pD,←mQ hO];omega) ((hP.ext (h.t o)).updW E) (by omega) ai) ?_)))))
   rintro _ df ⟨rfl,co,_,_,bm,bu,ce,az⟩
   refine dA ?_
   have ct:UpdW lb w df:=am.then ce
   have cj:=bw.next az am.size
   refine aS (nZ [] G up ?_)
   exact⟨rfl,co,_,_,bm,(by rw [←M1 (ip:=ip) (width:=width) p ab ak,←f,←List.append_assoc];exact bu),ct,cj⟩
theorem uU:∀ip,xN ip
 | 0=>SG
 | ip+1=>SI (uU ip)
structure Rune (bs:List Nat)(p r z:Nat):Prop where
 le:r≤2147483647
 low:bs.getD p 0<128→r=bs.getD p 0∧z=1
 high:128≤bs.getD p 0→128≤r
theorem Rune.dv {r z:Nat}(h:Rune bs p r z):dv r=dv (bs.getD p 0):=by
 by_cases h1:bs.getD p 0<128
 ·rw [(h.low h1).1]
 ·rw [BF (h.high (by omega)),BF (by omega)]
theorem Rune.one {r z:Nat}(h:Rune bs p r z)(hd:Go.Proofs.YtkepckmdjncehaaGreatDoor.dv r<36):z=1∧r=bs.getD p 0∧r<128:=by
 by_cases h1:bs.getD p 0<128
 ·exact⟨(h.low h1).2,(h.low h1).1,by rw [(h.low h1).1];exact h1⟩
 ·rw [BF (h.high (by omega))] at hd;omega
theorem OP (hb:∀b,b∈bs→b<256)(hp:p<bs.length):Rune bs p (Utf8.decode (aM bs) p).1 (Utf8.decode (aM bs) p).2:=by
 refine⟨decode_le _ _,fun h=>by rw [VT hb hp h];exact⟨rfl,rfl⟩,fun h=>?_⟩
 have hs:p<(aM bs).size:=by rw [dU];exact hp
 exact (decode_high (aM bs) p hs (by rw [sH hb hp hs];exact h)).1
section
variable {P:bV}{Q:dH→Act→a0→Prop}{n:Nat}{l:Fr}{w:a0}{ops:Array bB}{rest:List bB}{d:Nat}{ty:aV}{pos:String}{af:Array fD}{gd:Option (Nat×Bool)}
theorem LF {x:cG}(hw:d5 ops l gd=some true)(hx:bP l x=some (a4 g 0))(hb:∀b,b∈bs→b<256)(h:It w g bs p)(hp:p<bs.length)(hn:d<n)(k:∀w' r z,Rune bs p r z→It w' g bs (p+z)→Upd g w w'→wl P ops Q n rest ((d,.tuple #[no,a9 (p:Int),.int .i32 (r:Int)])::l) w'):wl P ops Q n (⟨some d,.next x true,ty,pos,af,gd⟩::rest) l w:=
 LG hw hx h hp hn fun w' h1 h2=>k w' _ _ (OP hb hp) h1 h2
theorem LK {x y:cG}(hw:d5 ops l gd=some true)(hx:bP l x=some (a9 0))(hy:bP l y=some (a9 (k:Int)))(ht:P.underlying t=some (.slice e))(hinfo:(P.info? e).map (fun i=>(i.zero,i.size,i.bytes))=some (some z,1,1))(_hz:z.cells= #[z])(hk:k≤1099511627776)(hd:d<n)(h:∀g w',Own w' w.heap.size e 1 (some ⟨g,0,none⟩) 0 k []→Ext w w'→wl P ops Q n rest ((d,i9 (some ⟨g,0,none⟩) 0 k)::l) w'):wl P ops Q n (⟨some d,.makeSlice t x y,ty,pos,af,gd⟩::rest) l w:=by
 obtain⟨i,hi,q,D,o⟩:=oC hinfo
 have hr:=run_make (P:=P) w t e i _ ht hi q .i64 .i64 0 (k:Int) (by omega) (by omega) (by rw [o];omega) (by omega)
 rw [gX,show (0:Int).toNat=0 from rfl,D] at hr
 obtain⟨cs,f,p⟩:∃cs:List aD,madeCells z.cells (k*1)=cs.toArray∧cs.length=k*1:=⟨(madeCells z.cells (k*1)).toList,Array.toArray_toList.symm,by rw [Array.length_toList,size_madeCells]⟩
 rw [f] at hr
 refine fJ hw hd (fun a' E=>?_) (h _ (w.alloc (.cells cs.toArray e)) (bT ⟨w.heap.size,cs,rfl,aX _,Bk.new _ _ _,bJ _,by rw [eA];omega,p,rfl⟩) ((Ext.refl w).alloc _))
 have e':(oK t (a'.eval x) (a'.eval y)).run P w= .ok (i9 (some ⟨w.heap.size,0,none⟩) 0 k) (w.alloc (.cells cs.toArray e)):=by rw [E.ev hx,E.ev hy];exact hr
 show ((oK t (a'.eval x) (a'.eval y)>>=fun r=>pure (gE r):Sem fU)).run P w=_
 rw [cA,e'];rfl
end
theorem VW (h:x≤255):d8 .u8 (IntKind.u8.wrap (x:Int))= .int .u8 (x:Int):=by rw [IntWalk.u8_in _ ⟨by omega,by omega⟩]
theorem pJ {A B:Int}{a:Nat}(ha:A=(a:Int))(hb:B=(b:Int))(h:b≤a:=by omega)(h2:a≤2147483647:=by omega):eJ .sub .i32 A B=some ((a-b:Nat):Int):=by
 subst ha hb;simp only [eJ,eH];rw [show (a:Int)-(b:Int)=((a-b:Nat):Int) by omega,IntWalk.i32_in _ ⟨by omega,by omega⟩]
structure Rb (b:Nat)(w:a0)(A:Option a8)(n c:Nat)(xs:List Nat):Prop where
 rv:Rv w 1 A n c (xs.map B8)
 wf:∀x,x∈xs→x<b
theorem Rb.ext (h:Rb b w A n c xs)(e:Ext w w'):Rb b w' A n c xs:=⟨h.rv.ext e,h.wf⟩
theorem Rb.len (h:Rb b w A n c xs):xs.length=n:=by simpa using h.rv.len
theorem Rb.dig (h:Rb b w A n c xs)(hi:i<n):xs.getD i 0<b:=by
 have hl:=h.len
 refine h.wf _ ?_
 rw [bE,bR (by omega)]
 exact lO (by omega)
theorem Rb.at (_:True)(h:Rb b w A n c xs)(hi:i<n):∃p,A.map (·.add (i*1))=some p∧w.cell? p=some (.int .u8 ((xs.getD i 0:Nat):Int))∧xs.getD i 0<b:=by
 have hl:=h.len
 obtain⟨a,rfl,e⟩:=h.rv.get i (by omega)
 refine⟨a.add i,by rw [dK];rfl,?_,h.dig hi⟩
 rw [e,bE,iK,bR (by omega),bE,bR (by omega)]
 rfl
theorem Rb.take (h:Rb b w A n c xs)(hk:k≤n):Rb b w A k c (xs.take k):=by
 have hl:=h.len
 have e:=h.rv.le
 refine⟨⟨by rw [List.length_map,dE,hl];omega,by omega,h.rv.max,fun i hi=>?_,h.rv.blk⟩,fun x hx=>h.wf x (oI hx)⟩
 obtain⟨a,o,f⟩:=h.rv.get i (by omega)
 refine⟨a,o,f.trans ?_⟩
 rw [jN,bE,bE,iW,if_pos (by omega)]
theorem Rb.drop (h:Rb b w A n c xs)(hk:k≤n):Rb b w (if c=k then A else A.map (·.add (k*1))) (n-k) (c-k) (xs.drop k):=by
 have o:=h.rv.le
 have hl:=h.len
 refine⟨⟨by rw [List.length_map,gS,hl,dK],by omega,by have:=h.rv.max;omega,fun i hi=>?_,fun a e f=>?_⟩,fun x hx=>h.wf x (nF hx)⟩
 ·rw [if_neg (by omega)]
  obtain⟨a,rfl,f⟩:=h.rv.get (k+i) (by omega)
  refine⟨a.add (k*1),rfl,?_⟩
  rw [dK,Addr.add_add,f]
  simp [bE,iK,List.getElem?_drop]
 ·rw [if_neg (by omega)] at e
  cases A with
  | none=>cases e
  | some p=>
   cases e
   rw [rK]
   exact h.rv.blk p G (by omega)
theorem Own.rb (h:Own w lb 5 1 A n c (xs.map B8))(hd:∀x,x∈xs→x<b):Rb b w A n c xs:=⟨h.rv,hd⟩
theorem DZ (A:Option a8)(n c k:Nat):oD (if c=k then A else A.map (·.add (k*1))) (n-k) (c-k)= i9 (if c=k then A else A.map (·.add (k*1))) (n-k) (c-k):=rfl
section
variable {w:a0}{b:Nat}
theorem EK (hb:b≤w.heap.size)(hx:Wi w A n c x)(hy:Wi w B m d y)(hN:n+m≤274877906944):aQ aH 125 #[i9 A n c,i9 B m d] w (Gv w (WR b (x*y))):=by
 obtain⟨xs,h1,rfl⟩:=hx;obtain⟨ys,h2,rfl⟩:=hy
 exact (vO h1 h2 hN).mono (gw hb)
theorem QY {zs:List Nat}(hx:Rd w A n cap xs)(hy:Rd w B m cap' ys)(hz:Rd w C k c zs)(hN:n+m≤274877906944)(hk:k≤1099511627775):aQ aH 274 #[i9 A n cap,i9 B m cap',i9 C k c] w (j2 w (nv xs*nv ys+nv zs)):=by
 go_enter Tryz.func274,Tryz.ntmps274
 go_wp2_with fail
 refine (G5 hx hy hN).mono ?_
 rintro e w1 ⟨k1,hk1,g1,z1,rfl,hg1,hb1,hw1,hl1,hv1,hx1⟩
 have hk1b:k1≤n+m:=by
  rw [hk1.out]
  have h1:=gT hx.wf
  have h2:=gT hy.wf
  rw [hx.len] at h1
  rw [hy.len] at h2
  omega
 go_wp2_with fail
 refine (AE (NewP.rd hb1 hw1 hl1.out (by omega)) (by omega) (hz.ext hx1) hk).mono ?_
 rintro e w2 ⟨A2,n2,c2,rfl,hn2,hr2,ho2,hx2⟩
 go_wp2_with fail
 go_ret
 rw [hv1.out] at hn2 hr2 ho2
 exact⟨A2,n2,c2,rfl,hn2,hr2,ho2.mono hx1.size,hx1.trans hx2⟩
theorem OJ (hb:b≤w.heap.size){bn bc cn cc z:Nat}(hx:Wi w A an ac x)(hy:Wi w B bn bc y)(hz:Wi w C cn cc z)(hN:an+bn≤274877906944)(hcn:cn≤1099511627775):aQ aH 274 #[i9 A an ac,i9 B bn bc,i9 C cn cc] w (Gv w (WR b (x*y+z))):=by
 obtain⟨xs,h1,rfl⟩:=hx;obtain⟨ys,h2,rfl⟩:=hy;obtain⟨zs,e,rfl⟩:=hz
 exact (QY h1 h2 e hN hcn).mono (gw hb)
theorem OO (hb:b≤w.heap.size)(hx:Wi w A n c x)(hl:n≤1099511627775)(hy:Wi w B m d y)(hl':m≤1099511627775):aQ aH 145 #[i9 A n c,i9 B m d] w (Gv w (WR b (x+y))):=by
 obtain⟨xs,h1,rfl⟩:=hx;obtain⟨ys,h2,rfl⟩:=hy
 exact (AE h1 hl h2 hl').mono (gw hb)
theorem OH (hb:b≤w.heap.size)(hx:Wi w A n c x)(hl:n≤137438953472)(hv:v≤18446744073709551615):aQ aH 247 #[i9 A n c,i5 (v:Int)] w (Gv w (WR b (x*v))):=by
 obtain⟨xs,h1,rfl⟩:=hx
 exact (QW h1 hl hv).mono (gw hb)
theorem OK (hb:b≤w.heap.size)(hx:Wi w A n c m)(hl:n≤1099511627776):aQ aH 141 #[i9 A n c] w (Gv w (WR b m)):=(B6 hx hl).mono (Gv.imp (WR.imp hb))
end
theorem sY (hb2:b≤36)(h:∀d,d∈ds→d<b)(hb:1≤b:=by omega):(wd (d4 b ds)).length≤ds.length:=
 iQ (cS (yN hb ds h) (Nat.pow_le_pow_left (by rw [cC];omega) _))
theorem AW (hb2:b≤36):(wd (b^n)).length≤n+1:=
 iQ (jL (Nat.pow_le_pow_left (show b≤WB by rw [cC];omega) n) (Nat.pow_lt_pow_right (show 1<WB by rw [cC];omega) (Nat.lt_succ_self n)))
theorem FC:p*(b*b)^(n/2)*b^(n%2)=p*b^n:=by
 rw [←Nat.pow_two,←Nat.pow_mul,bY,←dX]
 congr 2
 omega
theorem PU (h:n%2=1):p*b*(b*b)^(n/2)=p*b^n:=by
 have:=FC (p:=p) (b:=b) (n:=n)
 rw [h,Nat.pow_one] at this
 rw [←this,bY,bY,cY b]
theorem PW (h:¬n%2=1):p*(b*b)^(n/2)=p*b^n:=by
 have:=FC (p:=p) (b:=b) (n:=n)
 rw [show n%2=0 by omega,Nat.pow_zero,dK] at this
 exact this
theorem PV (h:n=1):p*b*c^(n/2)=p*b^n:=by subst h;simp
theorem PX (h:p*b^n=X)(hp:1≤p)(hb:1≤b)(hn:0<n):b≤X:=by
 rw [←h]
 have h1:b^1≤b^n:=eW hb hn
 rw [Nat.pow_one] at h1
 exact aE h1 (Nat.le_mul_of_pos_left _ hp)
theorem PT (h:p*b^n=X)(hb:1≤b):p≤X:=by
 rw [←h];exact Nat.le_mul_of_pos_right _ (gC hb)
theorem LW (hk:k≤xs.length):d4 b (pre++xs.take k)=d4 b pre*b^k+d4 b (xs.take k):=by
 rw [D9,dE,g7 hk]
theorem DH (h:i<n)(hn:n≤xs.length):xs.take (i+1)=xs.take i++ [(xs.take n).getD i 0]:=by
 rw [List.take_add_one,bE,iW,if_pos h,bR (by omega)]
 rfl
theorem O4 (hc:c≤2147483647):aQ aH 244 #[.int .i32 ((c:Nat):Int)] w (Gv w (Is (a9 ((dv c:Nat):Int)))):=by
 refine bL Tryz.func244 G (n:=35) G (bq G) (args:= [.int .i32 ((c:Nat):Int)]) (bF [(0,.int .i32 ((c:Nat):Int))] ⟨rfl,up⟩ (sr (mv 1 G (a1 (a7 (bI (a7 ?_)))))))
 by_cases q:c≥48
 ·by_cases r:c≤57
  ·refine a6 (mv 1 G (aA G G G true (fY (a:=c) (b:=48) G G) (mv 2 G (aA G G G true (m4 (a:=c) (b:=57) G G) (pu (v:= no) G (mv 1 G (a1 (aY G (sr (mv 1 G (aR G G G ((c-48:Nat):Int) (pJ (a:=c) (b:=48) G G) (dF G G (v:= a9 (IntKind.i64.wrap ((c-48:Nat):Int))) (v':= a9 ((c-48:Nat):Int)) (m0 (by first | omega | exact hle64)) (mv 1 G ?_)))))))))))))
   refine a1 (aU (gM (bU (aT [a9 ((c-48:Nat):Int)] G ⟨rfl,up⟩ ?_))))
   have e:c-48=dv c:=by unfold dv;(repeat' split) <;> omega
   exact⟨_,rfl,(show d8 .i64 ((c-48:Nat):Int)=_ by rw [e]),(Ext.refl w)⟩
  ·refine a6 (mv 1 G (aA G G G true (fY (a:=c) (b:=48) G G) (mv 2 G (aA G G G false (m5 (a:=c) (b:=57) G G) (pu (v:= t9) G (mv 1 G (a1 (aN G (a7 ?_)))))))))
   by_cases p:c≥97
   ·by_cases o:c≤122
    ·refine a6 (mv 1 G (aA G G G true (fY (a:=c) (b:=97) G G) (mv 2 G (aA G G G true (m4 (a:=c) (b:=122) G G) (pu (v:= no) G (mv 1 G (a1 (aY G (sr (mv 1 G (aR G G G ((c-97:Nat):Int) (pJ (a:=c) (b:=97) G G) (dF G G (v:= a9 (IntKind.i64.wrap ((c-97:Nat):Int))) (v':= a9 ((c-97:Nat):Int)) (m0 (by first | omega | exact hle64)) (aR G G G (((c-97)+10:Nat):Int) (bN (a:=c-97) (b:=10) G G) ?_)))))))))))))
     refine mv 1 G (a1 (aU (gM (bU (aT [a9 (((c-97)+10:Nat):Int)] G ⟨rfl,up⟩ ?_)))))
     have e:(c-97)+10=dv c:=by unfold dv;(repeat' split) <;> omega
     exact⟨_,rfl,(show d8 .i64 (((c-97)+10:Nat):Int)=_ by rw [e]),(Ext.refl w)⟩
    ·refine a6 (mv 1 G (aA G G G true (fY (a:=c) (b:=97) G G) (mv 2 G (aA G G G false (m5 (a:=c) (b:=122) G G) (pu (v:= t9) G (mv 1 G (a1 (aN G (a7 ?_)))))))))
     by_cases h:c≥65
     ·by_cases f:c≤90
      ·refine a6 (mv 1 G (aA G G G true (fY (a:=c) (b:=65) G G) (mv 2 G (aA G G G true (m4 (a:=c) (b:=90) G G) (pu (v:= no) G (mv 1 G (a1 (aY G (sr (mv 1 G (aR G G G ((c-65:Nat):Int) (pJ (a:=c) (b:=65) G G) (dF G G (v:= a9 (IntKind.i64.wrap ((c-65:Nat):Int))) (v':= a9 ((c-65:Nat):Int)) (m0 (by first | omega | exact hle64)) (aR G G G (((c-65)+10:Nat):Int) (bN (a:=c-65) (b:=10) G G) ?_)))))))))))))
       refine mv 1 G (a1 (aU (gM (bU (aT [a9 (((c-65)+10:Nat):Int)] G ⟨rfl,up⟩ ?_)))))
       have e:(c-65)+10=dv c:=by unfold dv;(repeat' split) <;> omega
       exact⟨_,rfl,(show d8 .i64 (((c-65)+10:Nat):Int)=_ by rw [e]),(Ext.refl w)⟩
      ·refine a6 (mv 1 G (aA G G G true (fY (a:=c) (b:=65) G G) (mv 2 G (aA G G G false (m5 (a:=c) (b:=90) G G) (pu (v:= t9) G (mv 1 G (a1 (aN G (aW (bG (aC (sr (mv 1 G ?_)))))))))))))
       refine a1 (aU (aT [a9 36] G ⟨rfl,up⟩ ?_))
       have e:36=dv c:=by unfold dv;(repeat' split) <;> omega
       exact⟨_,rfl,(show d8 .i64 ((36:Nat):Int)=_ by rw [e]),(Ext.refl w)⟩
     ·refine a6 (mv 1 G (aA G G G false (k9 (a:=c) (b:=65) G G) (mv 3 G (pu (v:= t9) G (mv 1 G (a1 (aN G (aW (bG (aC (sr (mv 1 G (aS ?_)))))))))))))
      refine aC (aU (aT [a9 36] G ⟨rfl,up⟩ ?_))
      have e:36=dv c:=by unfold dv;(repeat' split) <;> omega
      exact⟨_,rfl,(show d8 .i64 ((36:Nat):Int)=_ by rw [e]),(Ext.refl w)⟩
   ·refine a6 (mv 1 G (aA G G G false (k9 (a:=c) (b:=97) G G) (mv 3 G (pu (v:= t9) G (mv 1 G (a1 (aN G (a7 ?_))))))))
    by_cases h:c≥65
    ·by_cases f:c≤90
     ·refine a6 (mv 1 G (aA G G G true (fY (a:=c) (b:=65) G G) (mv 2 G (aA G G G true (m4 (a:=c) (b:=90) G G) (pu (v:= no) G (mv 1 G (a1 (aY G (sr (mv 1 G (aR G G G ((c-65:Nat):Int) (pJ (a:=c) (b:=65) G G) (dF G G (v:= a9 (IntKind.i64.wrap ((c-65:Nat):Int))) (v':= a9 ((c-65:Nat):Int)) (m0 (by first | omega | exact hle64)) (aR G G G (((c-65)+10:Nat):Int) (bN (a:=c-65) (b:=10) G G) ?_)))))))))))))
      refine mv 1 G (a1 (aU (gM (bU (aT [a9 (((c-65)+10:Nat):Int)] G ⟨rfl,up⟩ ?_)))))
      have e:(c-65)+10=dv c:=by unfold dv;(repeat' split) <;> omega
      exact⟨_,rfl,(show d8 .i64 (((c-65)+10:Nat):Int)=_ by rw [e]),(Ext.refl w)⟩
     ·refine a6 (mv 1 G (aA G G G true (fY (a:=c) (b:=65) G G) (mv 2 G (aA G G G false (m5 (a:=c) (b:=90) G G) (pu (v:= t9) G (mv 1 G (a1 (aN G (aW (bG (aC (sr (mv 1 G ?_)))))))))))))
      refine a1 (aU (aT [a9 36] G ⟨rfl,up⟩ ?_))
      have e:36=dv c:=by unfold dv;(repeat' split) <;> omega
      exact⟨_,rfl,(show d8 .i64 ((36:Nat):Int)=_ by rw [e]),(Ext.refl w)⟩
    ·refine a6 (mv 1 G (aA G G G false (k9 (a:=c) (b:=65) G G) (mv 3 G (pu (v:= t9) G (mv 1 G (a1 (aN G (aW (bG (aC (sr (mv 1 G (aS ?_)))))))))))))
     refine aC (aU (aT [a9 36] G ⟨rfl,up⟩ ?_))
     have e:36=dv c:=by unfold dv;(repeat' split) <;> omega
     exact⟨_,rfl,(show d8 .i64 ((36:Nat):Int)=_ by rw [e]),(Ext.refl w)⟩
 ·refine a6 (mv 1 G (aA G G G false (k9 (a:=c) (b:=48) G G) (mv 3 G (pu (v:= t9) G (mv 1 G (a1 (aN G (a7 ?_))))))))
  by_cases p:c≥97
  ·by_cases o:c≤122
   ·refine a6 (mv 1 G (aA G G G true (fY (a:=c) (b:=97) G G) (mv 2 G (aA G G G true (m4 (a:=c) (b:=122) G G) (pu (v:= no) G (mv 1 G (a1 (aY G (sr (mv 1 G (aR G G G ((c-97:Nat):Int) (pJ (a:=c) (b:=97) G G) (dF G G (v:= a9 (IntKind.i64.wrap ((c-97:Nat):Int))) (v':= a9 ((c-97:Nat):Int)) (m0 (by first | omega | exact hle64)) (aR G G G (((c-97)+10:Nat):Int) (bN (a:=c-97) (b:=10) G G) ?_)))))))))))))
    refine mv 1 G (a1 (aU (gM (bU (aT [a9 (((c-97)+10:Nat):Int)] G ⟨rfl,up⟩ ?_)))))
    have e:(c-97)+10=dv c:=by unfold dv;(repeat' split) <;> omega
    exact⟨_,rfl,(show d8 .i64 (((c-97)+10:Nat):Int)=_ by rw [e]),(Ext.refl w)⟩
   ·refine a6 (mv 1 G (aA G G G true (fY (a:=c) (b:=97) G G) (mv 2 G (aA G G G false (m5 (a:=c) (b:=122) G G) (pu (v:= t9) G (mv 1 G (a1 (aN G (a7 ?_)))))))))
    by_cases h:c≥65
    ·by_cases f:c≤90
     ·refine a6 (mv 1 G (aA G G G true (fY (a:=c) (b:=65) G G) (mv 2 G (aA G G G true (m4 (a:=c) (b:=90) G G) (pu (v:= no) G (mv 1 G (a1 (aY G (sr (mv 1 G (aR G G G ((c-65:Nat):Int) (pJ (a:=c) (b:=65) G G) (dF G G (v:= a9 (IntKind.i64.wrap ((c-65:Nat):Int))) (v':= a9 ((c-65:Nat):Int)) (m0 (by first | omega | exact hle64)) (aR G G G (((c-65)+10:Nat):Int) (bN (a:=c-65) (b:=10) G G) ?_)))))))))))))
      refine mv 1 G (a1 (aU (gM (bU (aT [a9 (((c-65)+10:Nat):Int)] G ⟨rfl,up⟩ ?_)))))
      have e:(c-65)+10=dv c:=by unfold dv;(repeat' split) <;> omega
      exact⟨_,rfl,(show d8 .i64 (((c-65)+10:Nat):Int)=_ by rw [e]),(Ext.refl w)⟩
     ·refine a6 (mv 1 G (aA G G G true (fY (a:=c) (b:=65) G G) (mv 2 G (aA G G G false (m5 (a:=c) (b:=90) G G) (pu (v:= t9) G (mv 1 G (a1 (aN G (aW (bG (aC (sr (mv 1 G ?_)))))))))))))
      refine a1 (aU (aT [a9 36] G ⟨rfl,up⟩ ?_))
      have e:36=dv c:=by unfold dv;(repeat' split) <;> omega
      exact⟨_,rfl,(show d8 .i64 ((36:Nat):Int)=_ by rw [e]),(Ext.refl w)⟩
    ·refine a6 (mv 1 G (aA G G G false (k9 (a:=c) (b:=65) G G) (mv 3 G (pu (v:= t9) G (mv 1 G (a1 (aN G (aW (bG (aC (sr (mv 1 G (aS ?_)))))))))))))
     refine aC (aU (aT [a9 36] G ⟨rfl,up⟩ ?_))
     have e:36=dv c:=by unfold dv;(repeat' split) <;> omega
     exact⟨_,rfl,(show d8 .i64 ((36:Nat):Int)=_ by rw [e]),(Ext.refl w)⟩
  ·refine a6 (mv 1 G (aA G G G false (k9 (a:=c) (b:=97) G G) (mv 3 G (pu (v:= t9) G (mv 1 G (a1 (aN G (a7 ?_))))))))
   by_cases h:c≥65
   ·by_cases f:c≤90
    ·refine a6 (mv 1 G (aA G G G true (fY (a:=c) (b:=65) G G) (mv 2 G (aA G G G true (m4 (a:=c) (b:=90) G G) (pu (v:= no) G (mv 1 G (a1 (aY G (sr (mv 1 G (aR G G G ((c-65:Nat):Int) (pJ (a:=c) (b:=65) G G) (dF G G (v:= a9 (IntKind.i64.wrap ((c-65:Nat):Int))) (v':= a9 ((c-65:Nat):Int)) (m0 (by first | omega | exact hle64)) (aR G G G (((c-65)+10:Nat):Int) (bN (a:=c-65) (b:=10) G G) ?_)))))))))))))
     refine mv 1 G (a1 (aU (gM (bU (aT [a9 (((c-65)+10:Nat):Int)] G ⟨rfl,up⟩ ?_)))))
     have e:(c-65)+10=dv c:=by unfold dv;(repeat' split) <;> omega
     exact⟨_,rfl,(show d8 .i64 (((c-65)+10:Nat):Int)=_ by rw [e]),(Ext.refl w)⟩
    ·refine a6 (mv 1 G (aA G G G true (fY (a:=c) (b:=65) G G) (mv 2 G (aA G G G false (m5 (a:=c) (b:=90) G G) (pu (v:= t9) G (mv 1 G (a1 (aN G (aW (bG (aC (sr (mv 1 G ?_)))))))))))))
     refine a1 (aU (aT [a9 36] G ⟨rfl,up⟩ ?_))
     have e:36=dv c:=by unfold dv;(repeat' split) <;> omega
     exact⟨_,rfl,(show d8 .i64 ((36:Nat):Int)=_ by rw [e]),(Ext.refl w)⟩
   ·refine a6 (mv 1 G (aA G G G false (k9 (a:=c) (b:=65) G G) (mv 3 G (pu (v:= t9) G (mv 1 G (a1 (aN G (aW (bG (aC (sr (mv 1 G (aS ?_)))))))))))))
    refine aC (aU (aT [a9 36] G ⟨rfl,up⟩ ?_))
    have e:36=dv c:=by unfold dv;(repeat' split) <;> omega
    exact⟨_,rfl,(show d8 .i64 ((36:Nat):Int)=_ by rw [e]),(Ext.refl w)⟩
theorem O5 (hbl:2≤base)(hbu:base≤36)(hn:n≤68719476736):aQ aH 275 #[a9 base,a9 n] w (Gv w (WR w.heap.size (base^n))):=by
 refine bL Tryz.func275 G (n:=26) G (bq G) (args:= [a9 base,a9 n]) (bF [(0,a9 base),(1,a9 n)] ⟨rfl,rfl,up⟩ (sr (mv 1 G (a1 (sr (fW G G (k:=1) (e:=65) [i5 1] (fun _=>by kernel_rfl) fun g1 _ M=>?_))))))
 have o4:=O1.mk_ (x:=1) (b:=w.heap.size) M (Ext.refl w).size
 have e5:=M.ext
 have h:=(Ext.refl w).trans e5
 have o7:=qO o4 (show 1≤18446744073709551615 by decide) (show 1≠0 by decide)
 have j6:=rC (show 1≤18446744073709551615 by decide) (show 1≠0 by decide)
 refine mv 1 G (dF G G (v:= i5 (IntKind.u64.wrap ((base:Nat):Int))) (v':= i5 base) (jC (by first | omega | exact hle64)) (fW G G (k:=1) (e:=65) [i5 base] (fun _=>by kernel_rfl) fun g8 v9 F=>?_))
 have ba:=O1.mk_ (x:=base) (b:=w.heap.size) F h.size
 have U:=F.ext
 have o:=h.trans U
 have bf:=qO ba (show base≤18446744073709551615 by omega) (show base≠0 by omega)
 have ak:=rC (show base≤18446744073709551615 by omega) (show base≠0 by omega)
 refine mv 2 G (a1 (a7 (bI ?_)))
 refine cU (T:=a0×Nat×Nat×Nat×Option a8×Nat×Nat×Option a8×Nat×Nat)
  (fun⟨wr,e,p,b,PA,pn,pc,BA,bn,bc⟩=> [(0,a9 base),(1,a9 e),(5,i9 PA pn pc),(6,i9 BA bn bc)])
  (fun⟨wr,e,p,b,PA,pn,pc,BA,bn,bc⟩=>wr)
  (fun⟨wr,e,p,b,PA,pn,pc,BA,bn,bc⟩=>(Ext w wr)∧(p*b^e=base^n)∧(1≤p)∧(1≤b)∧(pn=(wd p).length)∧(bn=(wd b).length)∧(Own wr w.heap.size 65 1 PA pn pc ((wd p).map bC))∧(Own wr w.heap.size 65 1 BA bn bc ((wd b).map bC))∧(e≤n))
  (fun⟨wr,e,p,b,PA,pn,pc,BA,bn,bc⟩=>e)
  (⟨v9,n,1,base,(some ⟨g1,0,none⟩),1,1,(some ⟨g8,0,none⟩),1,1⟩:a0×Nat×Nat×Nat×Option a8×Nat×Nat×Option a8×Nat×Nat) ⟨o,(by rw [Nat.one_mul]),(by decide),(by omega),j6,ak,(o7.ext U),bf,(aX _)⟩ G ⟨rfl,rfl,rfl,rfl,up⟩ ?_
 rintro⟨wr,e,p,b,PA,pn,pc,BA,bn,bc⟩ ⟨h,I,r,f,H,L,E,D,he⟩
 refine cR [(0,a9 base),(1,a9 e),(5,i9 PA pn pc),(6,i9 BA bn bc)] wr G ⟨rfl,rfl,rfl,rfl,up⟩ (a7 (a7 ?_))
 by_cases q:e>0
 ·have cf:=aE (iP (PT I f)) (AW (n:=n) hbu)
  have bz:=aE (iP (PX I r f q)) (AW (n:=n) hbu)
  refine a6 (mv 1 G (aA G G G true (fB (a:=e) (b:=0) G G) (a1 (aY G (aW (aC (a7 (bI (a7 (a7 ?_))))))))))
  by_cases ho:e%2=1
  ·refine a6 (mv 1 G (aR G G G ((e%2:Nat):Int) (kV (a:=e) (b:=2) G G) (aA G G G true (fM (a:=e%2) (b:=1) G G) (a1 (aY G (a6 (mv 2 G (cl (vs:= [i9 PA pn pc,i9 BA bn bc]) h (EK h.size E.wi D.wi (by omega)) G (by kernel_rfl) fun _ bh ar Z o=>?_))))))))
   obtain⟨V,X,Y,rfl,W,aa⟩:=ar
   refine mv 1 G (a1 (a7 ?_))
   by_cases hg:e>1
   ·refine a6 (mv 1 G (aA G G G true (fB (a:=e) (b:=1) G G) (a1 (aY G (a6 (mv 1 G (cl (vs:= [i9 BA bn bc]) o (uV o.size (D.ext Z).wi) G (by kernel_rfl) fun _ bg au aj av=>?_)))))))
    obtain⟨aw,bj,bd,rfl,ae,ai⟩:=au
    refine mv 1 G (aS (bG (aC (a6 (mv 1 G (aR G G G ((e/2:Nat):Int) (lG (a:=e) (b:=2) G G) (mv 1 G (aS (bW (⟨bg,e/2,p*b,b*b,V,X,Y,aw,bj,bd⟩:a0×Nat×Nat×Nat×Option a8×Nat×Nat×Option a8×Nat×Nat) ⟨av,(by rw [PU ho];exact I),(by first | decide | omega | exact iI r f),(by first | assumption | exact iI f f),W,ae,(aa.ext aj),ai,(aE (eR _ _) he)⟩ (jM q (by decide)) G ⟨rfl,rfl,rfl,rfl,up⟩)))))))))
   ·refine a6 (mv 1 G (aA G G G false (fC (a:=e) (b:=1) G G) (a1 (aN G (aW (bG (aC (a6 (mv 1 G (aR G G G ((e/2:Nat):Int) (lG (a:=e) (b:=2) G G) (mv 1 G (aS (bW (⟨bh,e/2,p*b,b,V,X,Y,BA,bn,bc⟩:a0×Nat×Nat×Nat×Option a8×Nat×Nat×Option a8×Nat×Nat) ⟨o,(by rw [PV (by omega)];exact I),(by first | decide | omega | exact iI r f),(by first | assumption | exact iI f f),W,L,aa,(D.ext Z),(aE (eR _ _) he)⟩ (jM q (by decide)) G ⟨rfl,rfl,rfl,rfl,up⟩)))))))))))))
  ·refine a6 (mv 1 G (aR G G G ((e%2:Nat):Int) (kV (a:=e) (b:=2) G G) (aA G G G false (fT (a:=e%2) (b:=1) G G) (a1 (aN G (aW (aC (a7 ?_))))))))
   by_cases hg:e>1
   ·refine a6 (mv 1 G (aA G G G true (fB (a:=e) (b:=1) G G) (a1 (aY G (a6 (mv 1 G (cl (vs:= [i9 BA bn bc]) h (uV h.size D.wi) G (by kernel_rfl) fun _ ab ah ag o=>?_)))))))
    obtain⟨az,ao,aq,rfl,am,bi⟩:=ah
    refine mv 1 G (aS (bG (aC (a6 (mv 1 G (aR G G G ((e/2:Nat):Int) (lG (a:=e) (b:=2) G G) (mv 1 G (aS (bW (⟨ab,e/2,p,b*b,PA,pn,pc,az,ao,aq⟩:a0×Nat×Nat×Nat×Option a8×Nat×Nat×Option a8×Nat×Nat) ⟨o,(by rw [PW ho];exact I),(by first | decide | omega | exact iI r f),(by first | assumption | exact iI f f),H,am,(E.ext ag),bi,(aE (eR _ _) he)⟩ (jM q (by decide)) G ⟨rfl,rfl,rfl,rfl,up⟩)))))))))
   ·refine a6 (mv 1 G (aA G G G false (fC (a:=e) (b:=1) G G) (a1 (aN G (aW (bG (aC (a6 (mv 1 G (aR G G G ((e/2:Nat):Int) (lG (a:=e) (b:=2) G G) (mv 1 G (aS (bW (⟨wr,e/2,p,b,PA,pn,pc,BA,bn,bc⟩:a0×Nat×Nat×Nat×Option a8×Nat×Nat×Option a8×Nat×Nat) ⟨h,(by omega),(by first | decide | omega | exact iI r f),(by first | assumption | exact iI f f),H,L,E,D,(aE (eR _ _) he)⟩ (jM q (by decide)) G ⟨rfl,rfl,rfl,rfl,up⟩)))))))))))))
 ·refine a6 (mv 1 G (aA G G G false (fC (a:=e) (b:=0) G G) (a1 (aN G (cN (cI (cL (cM (aC (sr (mv 2 G (a1 (aU ?_)))))))))))))
  refine aT [i9 PA pn pc] G ⟨rfl,up⟩ ?_
  have e0:e=0:=by omega
  subst e0
  rw [Nat.pow_zero,dK] at I
  subst I
  exact⟨_,rfl,⟨_,_,_,rfl,H,E⟩,h⟩
theorem LV (hl:ds.length=n)(hk:k≤n):d4 b (ds.take (n-k))*b^k+d4 b (ds.drop (n-k))=d4 b ds:=by
 have h:=D9 b (ds.take (n-k)) (ds.drop (n-k))
 rw [s0,gS,hl,show n-(n-k)=k by omega] at h
 exact h.symm
theorem PieceK.pos (h:PieceK b k)(hb:b≤36):1≤k:=by
 rcases kC k with e | e
 ·have:=h.gt;rw [e,eQ,Nat.pow_one] at this;omega
 ·exact e
theorem MT (hk:PieceK b k)(hb:1≤b)(hi:i+1≤k)(hv:v<b^i)(hx:x<b):v*b+x≤18446744073709551615∧b^i*b≤18446744073709551615:=by
 have h1:b^(i+1)≤b^k:=eW hb hi
 rw [dJ] at h1
 have h2:=hk.le
 have e:(v+1)*b≤b^i*b:=eC b hv
 rw [dO,Nat.one_mul] at e
 exact⟨by omega,by omega⟩
theorem RG (h:x≤18446744073709551615):(wd x).length≤1:=iQ (by rw [Nat.pow_one,cC];omega)
theorem AF (h:∀x,x∈xs→x<b)(k:Nat):∀x,x∈xs.take k→x<b:=fun x hx=>h x (oI hx)
theorem R3 (h:∀x,x∈xs→x<b)(k:Nat):∀x,x∈xs.drop k→x<b:=fun x hx=>h x (nF hx)
def K8 (N:Nat):Prop:=∀{w:a0}{A:Option a8}{n c base:Nat}{ds:List Nat},n≤N→2≤base→base≤36→Rb base w A n c ds→n≤17179869184→
 aQ aH 245 #[i9 A n c,a9 base] w (Gv w (WR w.heap.size (d4 base ds)))
theorem O6 (ih:K8 N)(hnN:n≤N+1)(hbl:2≤base)(hbu:base≤36)(hd:Rb base w A n c ds)(hn:n≤17179869184)(hbig:200<n):aQ aH 245 #[i9 A n c,a9 base] w (Gv w (WR w.heap.size (d4 base ds))):=by
 have cx:(wd (d4 base (ds.take (n-(n/2))))).length≤n:=by have:=sY hbu (AF hd.wf (n-(n/2)));rw [dE,hd.len] at this;omega
 have cu:(wd (d4 base (ds.drop (n-(n/2))))).length≤n:=by have:=sY hbu (R3 hd.wf (n-(n/2)));rw [gS,hd.len] at this;omega
 have cv:(wd (base^(n/2))).length≤n/2+1:=AW hbu
 refine bL Tryz.func245 G (n:=81) G (bq G) (args:= [i9 A n c,a9 base]) (bF [(0,i9 A n c),(1,a9 base)] ⟨rfl,rfl,up⟩ (sr (mv 1 G (a1 (a7 (sr (mv 1 G (pu (v:= a9 n) G (aA G G G true (fB (a:=n) (b:=200) G G) (a1 (aY G (sr (mv 1 G ?_)))))))))))))
 refine pu (v:= a9 n) G (aR G G G ((n/2:Nat):Int) (lG (a:=n) (b:=2) G G) (mv 1 G (a1 (sr (mv 1 G (pu (v:= a9 n) G (mv 1 G (aR G G G ((n-(n/2):Nat):Int) (gI (a:=n) (b:=n/2) G G) (mv 1 G (a1 (a7 ?_)))))))))))
 refine eI cQ 14 [] [Is (i9 A n c),Is (a9 ((n-(n/2):Nat):Int)),Is (i9 A (n-(n/2)) c),Is (a9 base),WR w.heap.size (d4 base (ds.take (n-(n/2)))),Is (a9 base),Is (a9 ((n/2:Nat):Int)),WR w.heap.size (base^(n/2)),Is (i9 A n c),Is (a9 ((n-(n/2):Nat):Int)),Is (.slice (if c=n-(n/2) then A else A.map (·.add ((n-(n/2))*1))) (n-(n-(n/2))) (c-(n-(n/2)))),Is (a9 base),WR w.heap.size (d4 base (ds.drop (n-(n/2)))),WR w.heap.size ((d4 base (ds.take (n-(n/2))))*(base^(n/2))+(d4 base (ds.drop (n-(n/2)))))] [[],[],[0,1],[],[2,3],[],[],[5,6],[],[],[8,9],[],[10,11],[4,7,12]] [[],[],[0,1],[],[0,1,2,3],[],[],[0,1,2,3,4,5,6],[],[],[8,9],[],[0,1,2,3,4,5,6,7,8,9,10,11],[0,1,2,3,4,5,6,7,8,9,10,11,12],[0,1,2,3,4,5,6,7,8,9,10,11,12,13]] rfl
  (aJ G G (aF G G ?_) (aJ G G (aF G G ?_) (aJ G G (aF G G ?_) (aJ G G (aF G G ?_) (aJ G G (aF G G ?_) (aJ G G (aF G G ?_) (aJ G G (aF G G ?_) (aJ G G (aF G G ?_) (aJ G G (aF G G ?_) (aJ G G (aF G G ?_) (aJ G G (aF G G ?_) (aJ G G (aF G G ?_) (aJ G G (aF G G ?_) (aJ G G (aF G G ?_) dY)))))))))))))) ?_
 ·exact fun _ _=>aG (mv 1 G (aI G aK G))
 ·exact fun _ _=>aG (mv 1 G (aI G aK G))
 ·exact fun _ bv=>dk G G (dk G G (aG (lT G G jR jV (lo:=0) (hi:=n-(n/2)) G G (by omega) (by have:=(hd.ext bv).rv.le;omega) (v:= i9 A (n-(n/2)) c) (sJ _ _ _) (by decide) (aI G aK G))))
 ·exact fun _ _=>aG (mv 1 G (aI G aK G))
 ·intro _ I
  have e:=(Ext.refl w).trans I
  refine dk G G (dk G G (aG (cl (vs:= [i9 A (n-(n/2)) c,a9 base]) e ((ih (by omega) hbl hbu ((hd.take (k:=n-(n/2)) (by omega)).ext I) (by omega)).mono (Gv.imp (WR.imp e.size))) G (by kernel_rfl) fun _ _ cg ch E=>?_)))
  obtain⟨_,_,_,rfl,co,bj⟩:=cg
  exact aI G ch ⟨_,_,_,rfl,co,bj⟩
 ·exact fun _ _=>aG (mv 1 G (aI G aK G))
 ·exact fun _ _=>aG (mv 1 G (aI G aK G))
 ·intro _ bu
  have e:=(Ext.refl w).trans bu
  refine dk G G (dk G G (aG (cl (vs:= [a9 base,a9 ((n/2:Nat):Int)]) e ((O5 (n:=n/2) hbl hbu (by omega)).mono (Gv.imp (WR.imp e.size))) G (by kernel_rfl) fun _ _ ck ci E=>?_)))
  obtain⟨_,_,_,rfl,bm,bt⟩:=ck
  exact aI G ci ⟨_,_,_,rfl,bm,bt⟩
 ·exact fun _ _=>aG (mv 1 G (aI G aK G))
 ·exact fun _ _=>aG (mv 1 G (aI G aK G))
 ·exact fun _ bo=>dk G G (dk G G (aG (lT G G jR jV (lo:=n-(n/2)) (hi:=n) G G (by omega) (by have:=(hd.ext bo).rv.le;omega) (v:= .slice (if c=n-(n/2) then A else A.map (·.add ((n-(n/2))*1))) (n-(n-(n/2))) (c-(n-(n/2)))) (DZ _ _ _ _) (by decide) (aI G aK G))))
 ·exact fun _ _=>aG (mv 1 G (aI G aK G))
 ·intro _ ar
  have e:=(Ext.refl w).trans ar
  refine dk G G (dk G G (aG (cl (vs:= [.slice (if c=n-(n/2) then A else A.map (·.add ((n-(n/2))*1))) (n-(n-(n/2))) (c-(n-(n/2))),a9 base]) e ((ih (by omega) hbl hbu ((hd.drop (k:=n-(n/2)) (by omega)).ext ar) (by omega)).mono (Gv.imp (WR.imp e.size))) G (by kernel_rfl) fun _ _ ce bw E=>?_)))
  obtain⟨_,_,_,rfl,cf,bi⟩:=ce
  exact aI G bw ⟨_,_,_,rfl,cf,bi⟩
 ·intro _ cj
  have e:=(Ext.refl w).trans cj
  refine cF G G fun _ _ bz _ cm=>?_
  obtain⟨V,au,am,rfl,_,f⟩:=bz
  have f:=f.ext cm
  refine cF G G fun _ _ az _ M=>?_
  obtain⟨bd,ae,av,rfl,_,p⟩:=az
  have p:=p.ext M
  refine cF G G fun _ _ Y _ L=>?_
  obtain⟨bg,H,ag,rfl,_,o⟩:=Y
  have o:=o.ext L
  refine aG (cl (vs:= [i9 V au am,i9 bd ae av,i9 bg H ag]) e (OJ e.size f.wi p.wi o.wi (by omega) (by omega)) G (by kernel_rfl) fun _ _ bh ah E=>?_)
  obtain⟨_,_,_,rfl,aj,ai⟩:=bh
  exact aI G ah ⟨_,_,_,rfl,aj,ai⟩
 ·intro _ ab
  have e:=(Ext.refl w).trans ab
  refine dk G G (dk G G (dk G G (dk G G (cF G G fun _ _ aq _ X=>?_))))
  obtain⟨_,_,_,rfl,_,D⟩:=aq
  have D:=D.ext X
  refine dk G G (dk G G (cF G G fun _ _ bf _ W=>?_))
  obtain⟨_,_,_,rfl,_,r⟩:=bf
  have r:=r.ext W
  refine dk G G (dk G G (dk G G (dk G G (cF G G fun _ _ aa _ ba=>?_))))
  obtain⟨_,_,_,rfl,_,q⟩:=aa
  have q:=q.ext ba
  refine cF G G fun _ _ ak _ Z=>?_
  obtain⟨F,aw,ao,rfl,U,h⟩:=ak
  have h:=h.ext Z
  refine aG (mv 1 G (aS (eB (aC (aU (bU (aT [i9 F aw ao] G ⟨rfl,up⟩ ?_)))))))
  have hv:(d4 base (ds.take (n-(n/2))))*(base^(n/2))+(d4 base (ds.drop (n-(n/2))))=d4 base ds:=LV hd.len (by omega)
  exact⟨_,rfl,⟨_,_,_,rfl,hv▸U,hv▸h⟩,e⟩
theorem EG (hbl:2≤base)(hbu:base≤36)(hd:Rb base w A n c ds)(hlow:n≤200):aQ aH 245 #[i9 A n c,a9 base] w (Gv w (WR w.heap.size (d4 base ds))):=by
 refine bL Tryz.func245 G (n:=81) G (bq G) (args:= [i9 A n c,a9 base]) (bF [(0,i9 A n c),(1,a9 base)] ⟨rfl,rfl,up⟩ (sr (mv 1 G (a1 (a7 (sr (mv 1 G (pu (v:= a9 n) G (aA G G G false (fC (a:=n) (b:=200) G G) (a1 (aN G (aW (aC ?_)))))))))))))
 refine sr (mv 1 G (d9 G G (vs:= [a9 base]) (by kernel_rfl) (by decide) (zH hbl hbu) ?_))
 rintro _ v1 ⟨f,Y,_,rfl,r3,e2⟩
 have bv:=Y.pos hbu
 have bt:=Y.le64
 refine dA ?_
 have o:=(Ext.refl w).trans e2
 obtain⟨_,_,rfl,rfl,rfl⟩:=r3
 refine mv 1 G (pu (v:= a9 f) G (pu (v:= i5 ((base^f:Nat):Int)) G (mv 2 G (a1 (sr (mv 1 G (a1 (a7 (bI ?_)))))))))
 refine cU (T:=a0×List Nat×List Nat×Option a8×Nat×Nat×Option a8×Nat×Nat)
  (fun⟨wr,pre,rest,DA,dn,dc,QA,qn,qc⟩=> [(0,i9 DA dn dc),(1,a9 base),(7,a9 f),(9,i9 QA qn qc)])
  (fun⟨wr,pre,rest,DA,dn,dc,QA,qn,qc⟩=>wr)
  (fun⟨wr,pre,rest,DA,dn,dc,QA,qn,qc⟩=>(Ext w wr)∧(pre++rest=ds)∧(qn=(wd (d4 base pre)).length)∧(Own wr w.heap.size 65 1 QA qn qc ((wd (d4 base pre)).map bC))∧(Rb base wr DA dn dc rest))
  (fun⟨wr,pre,rest,DA,dn,dc,QA,qn,qc⟩=>dn)
  (⟨v1,[],ds,A,n,c,none,0,0⟩:a0×List Nat×List Nat×Option a8×Nat×Nat×Option a8×Nat×Nat) ⟨o,rfl,rfl,(Own.nil _ _ _ _),(hd.ext e2)⟩ G ⟨rfl,rfl,rfl,rfl,up⟩ ?_
 rintro⟨wr,pre,rest,DA,dn,dc,QA,qn,qc⟩ ⟨o,q,ai,D,h⟩
 refine cR [(0,i9 DA dn dc),(1,a9 base),(7,a9 f),(9,i9 QA qn qc)] wr G ⟨rfl,rfl,rfl,rfl,up⟩ (a7 (a7 ?_))
 by_cases bw:dn>0
 ·refine a6 (mv 1 G (pu (v:= a9 dn) G (aA G G G true (fB (a:=dn) (b:=0) G G) (a1 (aY G (aW (aC (bI (sr (mv 2 G (pu (v:= a9 dn) G (D1 G G G (((min f dn:Nat):Int)) (by omega) (by decide) (mv 1 G ?_)))))))))))))
  refine a1 (sr (mv 2 G (a1 (a7 (sr (mv 2 G (lT G G jR jV (lo:=0) (hi:=min f dn) G G (by omega) (by have:=h.rv.le;omega) (v:= i9 DA (min f dn) dc) (sJ _ _ _) (by decide) (pu (v:= a9 (((min f dn):Nat):Int)) G (mv 1 G (a1 (bI ?_)))))))))))
  refine cU (T:=a0×Nat×Nat×Nat)
   (fun⟨wq,i,v,p⟩=> [(0,i9 DA dn dc),(1,a9 base),(7,a9 f),(10,a9 ((min f dn:Nat):Int)),(9,i9 QA qn qc),(11,i5 v),(12,i5 p),(53,i9 DA (min f dn) dc),(54,a9 (((min f dn):Nat):Int)),(55,a9 i)])
   (fun⟨wq,i,v,p⟩=>wq)
   (fun⟨wq,i,v,p⟩=>(Ext w wq)∧(i≤min f dn)∧(v=d4 base (rest.take i))∧(p=base^i)∧(Own wq w.heap.size 65 1 QA qn qc ((wd (d4 base pre)).map bC))∧(Rb base wq DA dn dc rest)∧(Rb base wq DA (min f dn) dc (rest.take (min f dn))))
   (fun⟨wq,i,v,p⟩=>min f dn-i)
   (⟨wr,0,0,1⟩:a0×Nat×Nat×Nat) ⟨o,(bJ _),rfl,rfl,D,h,(h.take (k:=min f dn) (by omega))⟩ G ⟨rfl,rfl,rfl,rfl,rfl,rfl,rfl,rfl,rfl,rfl,up⟩ ?_
  rintro⟨wq,i,v,p⟩ ⟨o,hi,X,E,D,h,r⟩
  refine cR [(0,i9 DA dn dc),(1,a9 base),(7,a9 f),(10,a9 ((min f dn:Nat):Int)),(9,i9 QA qn qc),(11,i5 v),(12,i5 p),(53,i9 DA (min f dn) dc),(54,a9 (((min f dn):Nat):Int)),(55,a9 i)] wq G ⟨rfl,rfl,rfl,rfl,rfl,rfl,rfl,rfl,rfl,rfl,up⟩ (a7 ?_)
  by_cases I:i<min f dn
  ·have hx:=r.dig (i:=i) I
   have ak:v<base^i:=by rw [X];have:=yN (b:=base) (by omega) (rest.take i) (AF h.wf i);rwa [dE,g7 (by rw [h.len];omega)] at this
   have U:=MT Y (by omega) (show i+1≤f by omega) ak hx
   rw [←E] at U
   obtain⟨_,_⟩:=U
   refine a6 (aA G G G true (dG (a:=i) (b:=min f dn) G G) (a1 (a7 (aY G (aW (aC (a7 (bI (sr ?_)))))))))
   obtain⟨p7,ah,ae,_⟩:=(r).at (by decide) (i:=i) (by omega)
   refine bK G G G jR jV i G p7 ah (aL G G (cT C2 ae) (mv 1 G (a1 (sr (mv 2 G (dF G G (v:= i5 (IntKind.u64.wrap ((base:Nat):Int))) (v':= i5 base) (jC (by first | omega | exact hle64)) (aR G G G ((v*base:Nat):Int) (kW (a:=v) (b:=base) G G) (mv 1 G (dF G G (v:= i5 (IntKind.u64.wrap (((rest.take (min f dn)).getD i 0:Nat):Int))) (v':= i5 (((rest.take (min f dn)).getD i 0:Nat):Int)) (jC (by first | omega | exact hle64)) (aR G G G (((v*base)+((rest.take (min f dn)).getD i 0):Nat):Int) (iD (a:=v*base) (b:=(rest.take (min f dn)).getD i 0) G G) (mv 1 G (a1 (a6 ?_)))))))))))))
   refine mv 2 G (dF G G (v:= i5 (IntKind.u64.wrap ((base:Nat):Int))) (v':= i5 base) (jC (by first | omega | exact hle64)) (aR G G G ((p*base:Nat):Int) (kW (a:=p) (b:=base) G G) (mv 1 G (aS (bG (aC (a6 (aR G G G ((i+1:Nat):Int) (bN (a:=i) (b:=1) G G) (mv 1 G (aS (bW (⟨wq,i+1,v*base+(rest.take (min f dn)).getD i 0,p*base⟩:a0×Nat×Nat×Nat) ⟨o,(by omega),(by rw [DH I (by rw [h.len];omega),uH,←X]),(by rw [E,dJ]),D,h,r⟩ (show min f dn-(i+1)<min f dn-i by omega) G ⟨rfl,rfl,rfl,rfl,rfl,rfl,rfl,rfl,rfl,rfl,up⟩)))))))))))
  ·have am:i=min f dn:=by omega
   have M:p≤18446744073709551615:=by rw [E];exact aE (eW (by omega) (by omega)) Y.le
   have aw:v≤18446744073709551615:=by have:=yN (b:=base) (by omega) (rest.take i) (AF h.wf i);rw [dE,g7 (by rw [h.len];omega),←E,←X] at this;omega
   have bj:(wd (d4 base pre)).length≤200:=by have h1:=sY hbu (ds:=pre) (fun x hx=>hd.wf x (by rw [←q];exact List.mem_append_left _ hx));have h2:=hd.len;rw [←q,eN] at h2;omega
   have bu:(wd (d4 base pre*p)).length≤201:=by have:=vY (d4 base pre) p;have:=RG M;omega
   have hm:d4 base (pre++rest.take (min f dn))=d4 base pre*p+v:=by rw [←am,LW (by rw [h.len];omega),E,X]
   refine a6 (aA G G G false (cW (a:=i) (b:=min f dn) G G) (a1 (a7 (aN G (cN (cI (cL (cM (aC (sr (mv 2 G (cl (vs:= [i9 QA qn qc,i5 p]) o (OH o.size D.wi (by omega) M) G (by kernel_rfl) fun _ _ au e9 W=>?_))))))))))))
   obtain⟨av,ar,bf,rfl,_,aj⟩:=au
   refine mv 1 G (fW G G (k:=1) (e:=65) [i5 v] (fun _=>by kernel_rfl) fun ag _ H=>?_)
   have ao:=O1.mk_ (x:=v) (b:=w.heap.size) H W.size
   have F:=H.ext
   have V:=W.trans F
   refine cl (vs:= [i9 av ar bf,i9 (some ⟨ag,0,none⟩) 1 1]) V (OO V.size (aj.ext F).wi (by omega) (zT ao aw) (by decide)) G (by kernel_rfl) fun _ bg bd L ab=>?_
   obtain⟨ba,bh,az,rfl,Z,aq⟩:=bd
   refine mv 1 G (a1 (a6 (mv 2 G (lT G G jR jV (lo:=min f dn) (hi:=dn) G G (by omega) (by have:=(h.ext (e9.t (F.t L))).rv.le;omega) (v:= .slice (if dc=min f dn then DA else DA.map (·.add ((min f dn)*1))) (dn-(min f dn)) (dc-(min f dn))) (DZ _ _ _ _) (by decide) (mv 1 G (aS (bG (bW (⟨bg,pre++rest.take (min f dn),rest.drop (min f dn),if dc=min f dn then DA else DA.map (·.add ((min f dn)*1)),dn-(min f dn),dc-(min f dn),ba,bh,az⟩:a0×List Nat×List Nat×Option a8×Nat×Nat×Option a8×Nat×Nat) ⟨ab,(by rw [List.append_assoc,s0];exact q),(by rw [hm];exact Z),(by rw [hm];exact aq),((h.ext (e9.t (F.t L))).drop (k:=min f dn) (by omega))⟩ (show dn-min f dn<dn by omega) G ⟨rfl,rfl,rfl,rfl,up⟩))))))))
 ·refine a6 (mv 1 G (pu (v:= a9 dn) G (aA G G G false (fC (a:=dn) (b:=0) G G) (a1 (aN G (cN (cI (cL (cM (aC (sr (mv 2 G (aS ?_)))))))))))))
  refine aC (aU (aT [i9 QA qn qc] G ⟨rfl,up⟩ ?_))
  have aa:rest= []:=pV.1 (by have:=h.len;omega)
  rw [aa,List.append_nil] at q
  exact⟨_,rfl,⟨_,_,_,rfl,q▸ai,q▸D⟩,o⟩
theorem EH:∀N,K8 N
 | 0=>fun hn hbl hbu hd _=>EG hbl hbu hd (by omega)
 | N+1=>by
  intro hn hbl hbu hd hm
  rename_i w A n c base ds
  by_cases h:200<n
  ·exact O6 (EH N) hn hbl hbu hd hm h
  ·exact EG hbl hbu hd (by omega)
theorem O7 (hb:b≤w.heap.size)(hbl:2≤base)(hbu:base≤36)(hd:Rb base w A n c ds)(hn:n≤17179869184):aQ aH 245 #[i9 A n c,a9 base] w (Gv w (WR b (d4 base ds))):=
 (EH n (aX _) hbl hbu hd hn).mono (Gv.imp (WR.imp hb))
theorem wE (h:i<l.length):l.getD i 0∈l:=by
 rw [bE,bR h];exact lO h
theorem BI (h:∀c,c∈l→dv c<b):∀x,x∈l.map dv→x<b:=by
 intro x hx
 obtain⟨c,e,rfl⟩:=lN.1 hx
 exact h c e
theorem EJ (hbl:2≤base)(hbu:base≤36)(hbs:∀b,b∈bs→b<256)(hlen:bs.length≤17179869184):aQ aH 206 #[.string (aM bs),a9 base] w (fun e w'=>(fR base bs→Gv w (T2 (WR w.heap.size (d4 base (bs.map dv))) (Is (a9 0))) e w')∧(¬fR base bs→Gv w (T2 (Is (i9 none 0 0)) (Is (a9 7))) e w')):=by
 refine bL Tryz.func206 G (n:=41) G (bq G) (args:= [.string (aM bs),a9 base]) (bF [(0,.string (aM bs)),(1,a9 base)] ⟨rfl,rfl,up⟩ (sr (mv 2 G (a1 (a7 (sr (mv 1 G (aA G G G false (cW (a:=base) (b:=2) G G) (mv 2 G (aA G G G false (fC (a:=base) (b:=36) G G) (pu (v:= t9) G (a1 (aN G ?_)))))))))))))
 refine aW (aC (sr (mv 1 G (dF G G (v:= a9 (((aM bs).size:Nat):Int)) (v':= a9 ((bs.length:Nat):Int)) (by rw [dU]) (LK (k:=bs.length) G G G jR rD G (by omega) (by decide) fun g1 _ X e4=>?_)))))
 have X:=X.mono (Ext.refl w).size
 have o:=(Ext.refl w).trans e4
 refine mv 1 G (a1 (a7 (sr (mv 1 G (LC (bs:=bs) G G Tryz.underlying9 (by decide) fun g5 v6 am bt e9=>?_)))))
 have ai:w.heap.size≤g5:=by rw [←am];exact o.size
 clear am
 have r:=o.trans e9
 refine a1 (bI ?_)
 refine cU (T:=a0×Nat×Option a8×Nat)
  (fun⟨wr,p,OA,oc⟩=> [(0,.string (aM bs)),(1,a9 base),(6,i9 OA p oc),(20,a4 g5 0)])
  (fun⟨wr,p,OA,oc⟩=>wr)
  (fun⟨wr,p,OA,oc⟩=>(Ext w wr)∧(It wr g5 bs p)∧(Own wr w.heap.size 5 1 OA p oc (((bs.take p).map dv).map B8))∧(p≤bs.length)∧(∀c,c∈bs.take p→dv c<base))
  (fun⟨wr,p,OA,oc⟩=>bs.length-p)
  (⟨v6,0,(some ⟨g1,0,none⟩),bs.length⟩:a0×Nat×Option a8×Nat) ⟨r,bt,(X.ext e9),(bJ _),(fun c hc=>absurd hc (by simp))⟩ G ⟨rfl,rfl,rfl,rfl,up⟩ ?_
 rintro⟨wr,p,OA,oc⟩ ⟨o,hI,hO,hp,hg⟩
 refine cR [(0,.string (aM bs)),(1,a9 base),(6,i9 OA p oc),(20,a4 g5 0)] wr G ⟨rfl,rfl,rfl,rfl,up⟩ (a7 ?_)
 by_cases ah:p<bs.length
 ·refine a6 ?_
  have M:=hI
  refine LF G G hbs M (by omega) (by decide) fun _ f _ q L ak=>?_
  have r:=ak.ext o ai
  refine pu (v:= no) G (a1 (a7 (aY G (aW (aC (bI (sr (pu (v:= .int .i32 ((f:Nat):Int)) G (mv 1 G (a1 (sr (mv 1 G (cl (vs:= [.int .i32 ((f:Nat):Int)]) r (O4 q.le) G (by kernel_rfl) fun _ _ bi Z I=>?_)))))))))))))
  obtain rfl:=bi
  refine mv 1 G (a1 (a7 (a7 ?_)))
  by_cases ck:dv f≥base
  ·have D:¬fR base bs:=fun h=>by have:=h.2 (bs.getD p 0) (wE ah);rw [←q.dv] at this;omega
   refine a6 (mv 2 G (aA G G G true (fY (a:=dv f) (b:=base) G G) (a1 (aY G (sr (mv 2 G (a1 (aU (bU (gM (nY (gM (bU ?_)))))))))))))
   refine aT [S0,a9 7] G ⟨rfl,rfl,up⟩ ?_
   exact⟨fun h=>absurd h D,fun _=>⟨_,rfl,⟨_,_,rfl,rfl,rfl⟩,I⟩⟩
  ·have h1z:=q.one (by omega)
   have bw:=V1 f
   refine a6 (mv 2 G (aA G G G false (k9 (a:=dv f) (b:=base) G G) (a1 (aN G (aW (aC (a6 (mv 2 G (dF G G (v:= .int .u8 (IntKind.u8.wrap ((dv f:Nat):Int))) (v':= .int .u8 ((dv f:Nat):Int)) (VW (by omega)) (fW G G (k:=1) (e:=5) [.int .u8 ((dv f:Nat):Int)] (fun _=>by kernel_rfl) fun _ _ nb=>?_))))))))))
   have ag:=nb.bk
   have F:=nb.ext
   clear nb
   have aa:=I.trans F
   have E:=((hO.updI M ak).ext (Z.t F))
   refine oM G G G jR rD G E aa.size [.int .u8 ((dv f:Nat):Int)] G (qQ _ ag) G fun ar aj aq ae V _=>?_
   have bf:=V.ext aa (fun p hp=>(E.block p hp).1)
   have U:Own aq w.heap.size 5 1 ar (p+1) aj ((((bs.take p).map dv)++ [dv f]).map B8):=by have h:=ae;simp only [List.map_append,iJ,j7] at h⊢;exact h
   refine mv 1 G (aS (bG ?_))
   have ao:bs.take (p+1)=bs.take p++ [bs.getD p 0]:=by have:=DH (n:=bs.length) ah (aX _);rwa [List.take_length] at this
   have au:=q.dv
   refine bW (⟨aq,p+1,ar,aj⟩:a0×Nat×Option a8×Nat) ⟨bf,(by have h:=((L.ext (Z.t F)).updO V (GV E (L.ext (Z.t F))));rwa [h1z.1] at h),(by rw [ao,List.map_append];rw [au] at U;exact U),(by omega),(by rw [ao];intro c hc;rcases List.mem_append.1 hc with h | h;(· exact hg c h);(· rw [mD.1 h,←au];omega))⟩ (show bs.length-(p+1)<bs.length-p by omega) rfl ⟨rfl,rfl,rfl,rfl,trivial⟩
 ·have H:p=bs.length:=by omega
  refine a6 ?_
  have ab:=hI
  refine LE G G ab (by omega) (by decide) (pu (v:= t9) G (a1 (a7 (aN G (cN (cI (cL (cM (aC (a7 (a7 ?_)))))))))))
  by_cases hz:p=0
  ·have D:¬fR base bs:=fun h=>h.1 (pV.1 (by omega))
   refine a6 (mv 1 G (pu (v:= a9 p) G (aA G G G true (fM (a:=p) (b:=0) G G) (a1 (aY G (sr (mv 2 G (a1 (aU (bU (aT [S0,a9 7] G ⟨rfl,rfl,up⟩ ?_)))))))))))
   exact⟨fun h=>absurd h D,fun _=>⟨_,rfl,⟨_,_,rfl,rfl,rfl⟩,o⟩⟩
  ·have Y:fR base bs:=⟨fun e=>by rw [e] at H;simp at H;omega,by have:=hg;rwa [H,List.take_length] at this⟩
   have ct:(wd (d4 base ((bs.take p).map dv))).length≤p:=by have:=sY (b:=base) hbu (ds:=(bs.take p).map dv) (BI hg);rw [List.length_map,dE] at this;omega
   refine a6 (mv 1 G (pu (v:= a9 p) G (aA G G G false (fT (a:=p) (b:=0) G G) (a1 (aN G (aW (aC (sr (mv 2 G (cl (vs:= [i9 OA p oc,a9 base]) o (O7 o.size hbl hbu (hO.rb (BI hg)) (by omega)) G (by kernel_rfl) fun _ _ bh _ r=>?_))))))))))
   obtain⟨ce,bj,bu,rfl,_,ba⟩:=bh
   refine cl (vs:= [i9 ce bj bu]) r (OK r.size ba.wi (by omega)) G (by kernel_rfl) fun _ _ bd _ I=>?_
   obtain⟨az,bo,bg,rfl,bm,bv⟩:=bd
   refine mv 2 G (a1 (aU (aT [i9 az bo bg,I0] G ⟨rfl,rfl,up⟩ ?_)))
   have W:d4 base ((bs.take p).map dv)=d4 base (bs.map dv):=by rw [H,List.take_length]
   exact⟨fun _=>⟨_,rfl,⟨_,_,rfl,⟨_,_,_,rfl,W▸bm,W▸bv⟩,rfl⟩,I⟩,fun h=>absurd Y h⟩
theorem OE (hb:b≤w.heap.size)(hbl:2≤base)(hbu:base≤36)(hbs:∀b,b∈bs→b<256)(hlen:bs.length≤17179869184)(hg:fR base bs):aQ aH 206 #[.string (aM bs),a9 base] w (Gv w (T2 (WR b (d4 base (bs.map dv))) (Is (a9 0)))):=(EJ hbl hbu hbs hlen).mono fun _e _w' h=>Gv.imp (T2.imp (WR.imp hb) Is.imp) _ _ (h.1 hg)
theorem OG (hbl:2≤base)(hbu:base≤36)(hbs:∀b,b∈bs→b<256)(hlen:bs.length≤17179869184)(hg:¬fR base bs):aQ aH 206 #[.string (aM bs),a9 base] w (Gv w (T2 (Is (i9 none 0 0)) (Is (a9 7)))):=(EJ hbl hbu hbs hlen).mono fun _e _w' h=>h.2 hg
theorem OC (hS:Signs w)(hx:Wi w A an ac m)(hal:an≤4194304)(hbl:2≤base)(hbu:base≤36):aQ aH 185 #[i9 A an ac,a9 base] w (Gv w (T2 (Is (.string (aM (dS base m)))) (Is (a9 0)))):=by
 have ar:(wd m).length≤4194304:=aE hx.len hal
 have W:0+max 0 (db base m).length≤137438953472:=by have:=rB hbl ar;omega
 refine bL Tryz.func185 G (n:=73) G (bq G) (args:= [i9 A an ac,a9 base]) (bF [(0,i9 A an ac),(1,a9 base)] ⟨rfl,rfl,up⟩ (sr (mv 2 G (a1 (a7 (sr (mv 1 G (aA G G G false (cW (a:=base) (b:=2) G G) (mv 2 G (aA G G G false (fC (a:=base) (b:=36) G G) (pu (v:= t9) G (a1 (aN G ?_)))))))))))))
 refine aW (aC (sr (mv 1 G (cl (vs:= [i9 A an ac]) (Ext.refl w) (B6 (hx.ext (Ext.refl w)) (by omega)) G (by kernel_rfl) fun _ _ r3 _ ab=>?_))))
 obtain⟨A4,o,c4,rfl,j4,o4⟩:=r3
 refine mv 1 G (a1 (a7 (a7 ?_)))
 by_cases dg:o=0
 ·have ag:m=0:=lB.1 (by omega)
  refine a6 (mv 1 G (pu (v:= a9 o) G (aA G G G true (fM (a:=o) (b:=0) G G) (a1 (aY G (sr (mv 2 G (a1 (aU (bU (aT [.string (aM ([48])),I0] G ⟨rfl,rfl,up⟩ ?_)))))))))))
  have r:([48]:List Nat)=dS base m:=by subst ag;rfl
  exact⟨_,rfl,⟨_,_,rfl,(show Value.string _=Value.string _ from congrArg (fun l=>Value.string (aM l)) r),rfl⟩,ab⟩
 ·have ag:m≠0:=fun e=>dg (by rw [j4,e];rfl)
  refine a6 (mv 1 G (pu (v:= a9 o) G (aA G G G false (fT (a:=o) (b:=0) G G) (a1 (aN G (aW (aC (sr (mv 1 G (d9 G G (vs:= [a9 base]) (by kernel_rfl) (by decide) (zH hbl hbu) ?_))))))))))
  rintro _ v5 ⟨q,p9,_,rfl,r7,e6⟩
  refine dA ?_
  have U:=ab.trans e6
  obtain⟨_,_,rfl,rfl,rfl⟩:=r7
  refine mv 1 G (pu (v:= a9 q) G (pu (v:= i5 ((base^q:Nat):Int)) G (mv 2 G (a1 (sr (mv 3 G (pu (v:= .agg #[a9 base,a9 q,i5 ((base^q:Nat):Int),S0,S0]) G (l7 G G (vs:= [a9 base,a9 q,i5 ((base^q:Nat):Int),S0,S0]) G fun f _ nb=>?_))))))))
  have az:=Nat.le_of_eq nb.at_
  have F:w.heap.size≤v5.heap.size:=U.size
  have ai:=nb.bk
  have ci:w.heap.size≤f:=by rw [←nb.at_];exact U.size
  have Z:=nb.ext
  clear nb
  have V:=U.trans Z
  refine mv 1 G (a1 (a7 (a7 ?_)))
  by_cases ea:o>12
  ·refine a6 (mv 1 G (pu (v:= a9 o) G (aA G G G true (fB (a:=o) (b:=12) G G) (a1 (aY G (a7 ?_))))))
   have ct:1≤q:=by refine Nat.pos_of_ne_zero (fun e=>?_);have:=p9.gt;rw [e,eQ,Nat.pow_one] at this;omega
   have da:2≤base^q:=aE hbl (aE (Nat.le_of_eq (Nat.pow_one base).symm) (eW (by omega) ct))
   have bi:=p9.le
   refine a6 (mv 1 G (fW G G (k:=1) (e:=65) [i5 ((base^q:Nat):Int)] (fun _=>by kernel_rfl) fun cm dr nb=>?_))
   have cf:=nb.bk
   have ak:=nb.ext
   clear nb
   have Y:=V.trans ak
   refine mv 1 G (a1 (bI ?_))
   refine cU (T:=a0×Nat×Option a8×Nat×Nat×Option a8×Nat)
    (fun⟨wr,j,QA,qn,qc,PA,pc⟩=> [(0,i9 A4 o c4),(1,a9 base),(6,a9 q),(7,i5 ((base^q:Nat):Int)),(8,a4 f 0),(9,i9 QA qn qc)])
    (fun⟨wr,j,QA,qn,qc,PA,pc⟩=>wr)
    (fun⟨wr,j,QA,qn,qc,PA,pc⟩=>(Ext w wr)∧(j=0∨(base^q)^2^(j-1)≤m)∧(qn=(wd ((base^q)^2^j)).length)∧(qn≤8388608)∧(Own wr 0 65 1 QA qn qc ((wd ((base^q)^2^j)).map bC))∧(Bk wr f 193 [a9 base,a9 q,i5 ((base^q:Nat):Int),i9 PA j pc,S0])∧(Pw wr v5.heap.size PA j pc (base^q))∧(v5.heap.size≤wr.heap.size)∧(Own wr 0 65 1 A4 o c4 ((wd m).map bC)))
    (fun⟨wr,j,QA,qn,qc,PA,pc⟩=>64-j)
    (⟨dr,0,(some ⟨cm,0,none⟩),1,1,none,0⟩:a0×Nat×Option a8×Nat×Nat×Option a8×Nat) ⟨Y,(cD G),(by rw [Nat.pow_zero,Nat.pow_one];exact rC bi (by omega)),(by decide),(by rw [Nat.pow_zero,Nat.pow_one];exact (WE cf bi (by omega))),(ai.ext ak),(Pw.nil _ _ _),((aE Z.size ak.size)),((o4.ext (e6.t (Z.t ak)))).mono (bJ _)⟩ G ⟨rfl,rfl,rfl,rfl,rfl,rfl,up⟩ ?_
   rintro⟨wr,j,QA,qn,qc,PA,pc⟩ ⟨ab,ck,cx,cv,hq,b_g,cg,X,ah⟩
   refine cR [(0,i9 A4 o c4),(1,a9 base),(6,a9 q),(7,i5 ((base^q:Nat):Int)),(8,a4 f 0),(9,i9 QA qn qc)] wr G ⟨rfl,rfl,rfl,rfl,rfl,rfl,up⟩ (a7 (a7 ?_))
   have dx:j≤29:=by rcases ck with h | h;(· omega);(· have:=GW (FH da h ar) (by omega);omega)
   by_cases aw:(base^q)^2^j≤m
   ·have dt:(wd ((base^q)^2^j*(base^q)^2^j)).length≤8388608:=RE (aE (iP aw) ar)
    refine a6 (mv 2 G (cl (vs:= [i9 QA qn qc,i9 A4 o c4]) ab (uY hq.wi ah.wi) G (by kernel_rfl) fun _ _ du D U=>?_))
    obtain rfl:=du
    refine aA G G G true (W4 aw) (a1 (aY G (aW (aC (bI (sr (mv 2 G (pf f 0 G (pf f 3 G (aL G G (aP (fun _=>by kernel_rfl) (b_g.ext D) G) (mv 1 G (fW G G (k:=1) (e:=22) [i9 QA qn qc] (fun _=>by kernel_rfl) fun _ _ nb=>?_))))))))))))
    have bf:=nb.bk
    have E:=nb.ext
    clear nb
    have V:=U.trans E
    refine LO G G G (cg.ext (D.t E)) (aE X ((aE D.size E.size))) bf cx cv (hq.ext (D.t E)) (by omega) (by decide) fun bm bt _ ao H ⟨_,L⟩=>?_
    have Y:=H.ext V (fun p hp=>aE F (L.block p hp).1)
    refine pf f 0 G (pf f 3 G ?_)
    have I:=((b_g.ext (D.t E)).updO H (zR L (b_g.ext (D.t E)) (by decide)))
    refine d6 G G G (fun _=>by kernel_rfl) G I (bq G) G [a9 base,a9 q,i5 ((base^q:Nat):Int),i9 bm (j+1) bt,S0] G fun _ aa M _=>?_
    have av:=M.ext Y ci
    refine a1 (a7 (a7 ?_))
    by_cases dy:2*qn>o+2
    ·refine a6 (mv 1 G (pu (v:= a9 qn) G (aR G G G ((2*qn:Nat):Int) (pI (a:=2) (b:=qn) G G) (mv 1 G (pu (v:= a9 o) G (aR G G G ((o+2:Nat):Int) (bN (a:=o) (b:=2) G G) (aA G G G true (fB (a:=2*qn) (b:=o+2) G G) (a1 (aY G (cN (cI (BE (cL ?_)))))))))))))
     refine cM (aC (sr (mv 3 G (pf f 0 G (pf f 3 G (aL G G (aP (fun _=>by kernel_rfl) aa G) (pu (v:= a9 (((j+1):Nat):Int)) G (aR G G G (((j+1:Nat):Int)-1) (fH G) (d9 G G (vs:= [a4 f 0,i9 A4 o c4,a9 (((j+1:Nat):Int)-1),I0]) (by kernel_rfl) (by decide) (uU (j+1) (lb:=v5.heap.size) (bs:= []) G (hS.ext av) (cS (pO w _ (hS 0 (by decide))) F) hbl hbu aa (Own.nil _ _ _ _) az (aE X ((aE (aE (aE D.size E.size) H.size) M.by_.size))) (((ah.ext (D.t E)).updOT L (by decide) H).updT I (by decide) M).wi (by omega) G p9 (by decide) W ((ao.updT I M (by decide) (by decide)).mono (bJ _)) (aX _) (by omega)) ?_)))))))))
     rintro _ _ ⟨rfl,_,_,_,bj,bg,bv,_⟩
     refine dA ?_
     have au:=bv.ext av F
     refine a1 (sr (mv 1 G (pf f 0 G (pf f 4 G (aL G G (aP (fun _=>by kernel_rfl) bj G) (s8 G G bg (mv 2 G (a1 (aU (aT [.string (aM ([]++dM (dV (db base m) 0))),I0] G ⟨rfl,rfl,up⟩ ?_))))))))))
     have r:([]++dM (dV (db base m) 0):List Nat)=dS base m:=by rw [List.nil_append,qM (bJ _),dS,if_neg ag]
     exact⟨_,rfl,⟨_,_,rfl,(show Value.string _=Value.string _ from congrArg (fun l=>Value.string (aM l)) r),rfl⟩,au⟩
    ·refine a6 (mv 1 G (pu (v:= a9 qn) G (aR G G G ((2*qn:Nat):Int) (pI (a:=2) (b:=qn) G G) (mv 1 G (pu (v:= a9 o) G (aR G G G ((o+2:Nat):Int) (bN (a:=o) (b:=2) G G) (aA G G G false (fC (a:=2*qn) (b:=o+2) G G) (a1 (aN G (aW (aC (a6 (mv 1 G ?_)))))))))))))
     refine cl (vs:= [i9 QA qn qc]) av (uV (bJ _) (((hq.ext (D.t E)).updOT L (by decide) H).updT I (by decide) M).wi) G (by kernel_rfl) fun _ dl cu aj au=>?_
     obtain⟨dh,co,de,rfl,bz,dm⟩:=cu
     refine mv 1 G (aS (bG (bW (⟨dl,j+1,dh,co,de,bm,bt⟩:a0×Nat×Option a8×Nat×Nat×Option a8×Nat) ⟨au,(bT aw),(by rw [bz,FE]),(by rw [bz];exact dt),(by rw [←FE];exact dm),(aa.ext aj),((ao.updT I M (by decide) (by decide)).ext aj),(aE X ((aE (aE (aE (aE D.size E.size) H.size) M.by_.size) aj.size))),((((ah.ext (D.t E)).updOT L (by decide) H).updT I (by decide) M).ext aj)⟩ (show 64-(j+1)<64-j by omega) G ⟨rfl,rfl,rfl,rfl,rfl,rfl,up⟩)))
   ·refine a6 (mv 2 G (cl (vs:= [i9 QA qn qc,i9 A4 o c4]) ab (uY hq.wi ah.wi) G (by kernel_rfl) fun _ _ dd ae U=>?_))
    obtain rfl:=dd
    refine aA G G G false (W5 (by omega)) (a1 (aN G (cN (cI (cL (cM (aC (sr (mv 3 G (pf f 0 G (pf f 3 G (aL G G (aP (fun _=>by kernel_rfl) (b_g.ext ae) G) (pu (v:= a9 j) G ?_)))))))))))))
    refine aR G G G (((j:Nat):Int)-1) (fH G) (d9 G G (vs:= [a4 f 0,i9 A4 o c4,a9 (((j:Nat):Int)-1),I0]) (by kernel_rfl) (by decide) (uU (j) (lb:=v5.heap.size) (bs:= []) G (hS.ext U) (cS (pO w _ (hS 0 (by decide))) F) hbl hbu (b_g.ext ae) (Own.nil _ _ _ _) az (aE X (ae.size)) (ah.ext ae).wi (by omega) G p9 (by decide) W ((cg.ext ae).mono (bJ _)) (aX _) (by omega)) ?_)
    rintro _ _ ⟨rfl,_,_,_,bw,ch,bu,_⟩
    refine dA ?_
    have V:=bu.ext U F
    refine a1 (sr (mv 1 G (pf f 0 G (pf f 4 G (aL G G (aP (fun _=>by kernel_rfl) bw G) (s8 G G ch (mv 2 G (a1 (aU (aT [.string (aM ([]++dM (dV (db base m) 0))),I0] G ⟨rfl,rfl,up⟩ ?_))))))))))
    have r:([]++dM (dV (db base m) 0):List Nat)=dS base m:=by rw [List.nil_append,qM (bJ _),dS,if_neg ag]
    exact⟨_,rfl,⟨_,_,rfl,(show Value.string _=Value.string _ from congrArg (fun l=>Value.string (aM l)) r),rfl⟩,V⟩
  ·refine a6 (mv 1 G (pu (v:= a9 o) G (aA G G G false (fC (a:=o) (b:=12) G G) (a1 (aN G (aW (aC (sr (mv 3 G (pf f 0 G (pf f 3 G (aL G G (aP (fun _=>by kernel_rfl) ai G) (pu (v:= a9 0) G ?_)))))))))))))
   refine aR G G G (((0:Nat):Int)-1) (fH G) (d9 G G (vs:= [a4 f 0,i9 A4 o c4,a9 (((0:Nat):Int)-1),I0]) (by kernel_rfl) (by decide) (uU 0 (lb:=v5.heap.size) (bs:= []) G (hS.ext V) (cS (pO w _ (hS 0 (by decide))) F) hbl hbu ai (Own.nil _ _ _ _) az (Z.size) (o4.ext (e6.t Z)).wi (by omega) G p9 (by decide) W (Pw.nil _ _ _) (aX _) (by omega)) ?_)
   rintro _ _ ⟨rfl,_,_,_,bh,ce,bo,_⟩
   refine dA ?_
   have Y:=bo.ext V F
   refine a1 (sr (mv 1 G (pf f 0 G (pf f 4 G (aL G G (aP (fun _=>by kernel_rfl) bh G) (s8 G G ce (mv 2 G (a1 (aU (aT [.string (aM ([]++dM (dV (db base m) 0))),I0] G ⟨rfl,rfl,up⟩ ?_))))))))))
   have r:([]++dM (dV (db base m) 0):List Nat)=dS base m:=by rw [List.nil_append,qM (bJ _),dS,if_neg ag]
   exact⟨_,rfl,⟨_,_,rfl,(show Value.string _=Value.string _ from congrArg (fun l=>Value.string (aM l)) r),rfl⟩,Y⟩
theorem OR (ht:P.underlying t=some .string)(hb:∀b,b∈bs→b<256)(hi:i<bs.length):(Instr.index t (.string (aM bs)) (a9 (i:Int))).run P w= .ok (.int .u8 ((bs.getD i 0:Nat):Int)) w:=by
 have hs:i<(aM bs).size:=by rw [dU];exact hi
 rw [run_index_string w t _ _ _ ht,dif_pos ⟨by omega,by omega⟩]
 have e:=sH hb hi hs
 simp only [gX]
 rw [e]
theorem f9 {Q:dH→Act→a0→Prop}{l:Fr}{pos:String}{x y:cG}(hw:d5 ops l gd=some true)(hx:bP l x=some (.string (aM bs)))(hy:bP l y=some (a9 (i:Int)))(ht:P.underlying t=some .string)(hb:∀b,b∈bs→b<256)(h:wl P ops Q n rest ((d,.int .u8 ((bs.getD i 0:Nat):Int))::l) w)(hi:i<bs.length:=by omega)(hn:d<n:=by decide):wl P ops Q n (⟨some d,.index t x y,ty,pos,af,gd⟩::rest) l w:=by
 refine fJ hw hn (fun a' f=>?_) h
 have e:(Instr.index t (a'.eval x) (a'.eval y)).run P w= .ok (.int .u8 ((bs.getD i 0:Nat):Int)) w:=by rw [f.ev hx,f.ev hy];exact OR ht hb hi
 show ((Instr.index t (a'.eval x) (a'.eval y)>>=fun r=>pure (gE r):Sem fU)).run P w=_
 rw [cA,e];rfl
theorem DD (hb:2≤b)(hb2:b≤36):∀c,c∈dS b m→c<256:=by
 intro c e
 unfold dS at e
 split at e
 ·rw [mD] at e;omega
 ·unfold dM at e
  obtain⟨d,f,rfl⟩:=lN.1 e
  have h1:=kX hb m d (List.mem_reverse.1 f)
  have:=E3 (d:=d) (by omega)
  omega
theorem OM (hS:Signs w)(hx:Wi w A an ac m)(hal:an≤4194304):aQ aH 126 #[i9 A an ac] w (Gv w (Is (.string (aM (dS 10 m))))):=by
 refine bL Tryz.func126 G (n:=11) G (bq G) (args:= [i9 A an ac]) (bF [(0,i9 A an ac)] ⟨rfl,up⟩ (sr (mv 1 G (a1 (sr (mv 1 G (cl (vs:= [i9 A an ac,a9 10]) (Ext.refl w) (OC (base:=10) (hS.ext (Ext.refl w)) hx (by omega) (by decide) (by decide)) G (by kernel_rfl) fun _ _ f _ e=>?_)))))))
 obtain⟨_,_,rfl,rfl,rfl⟩:=f
 refine mv 1 G (pu (v:= .string (aM (dS 10 m))) G (pu (v:= a9 0) G (mv 2 G (a1 (sr (mv 2 G (a1 (aU (aT [.string (aM (dS 10 m))] G ⟨rfl,up⟩ ?_)))))))))
 exact⟨_,rfl,rfl,e⟩
theorem uW (hbs:∀b,b∈bs→b<256)(hlen:bs.length≤17179869184)(hg:fR 10 bs):aQ aH 163 #[.string (aM bs)] w (Gv w (T2 (WR w.heap.size (d4 10 (bs.map dv))) (Is (a9 0)))):=by
 refine bL Tryz.func163 G (n:=8) G (bq G) (args:= [.string (aM bs)]) (bF [(0,.string (aM bs))] ⟨rfl,up⟩ (sr (mv 2 G (a1 (sr (mv 1 G (cl (vs:= [.string (aM bs),a9 10]) (Ext.refl w) (OE (Ext.refl w).size (base:=10) (by decide) (by decide) hbs hlen hg) G (by kernel_rfl) fun _ _ p _ e=>?_)))))))
 obtain⟨_,_,rfl,⟨h,o,f,rfl,q,r⟩,rfl⟩:=p
 refine pu (v:= i9 h o f) G (pu (v:= a9 0) G (mv 2 G (a1 (aU (aT [i9 h o f,I0] G ⟨rfl,rfl,up⟩ ?_)))))
 exact⟨_,rfl,⟨_,_,rfl,⟨_,_,_,rfl,q,r⟩,rfl⟩,e⟩
theorem uX (hbs:∀b,b∈bs→b<256)(hlen:bs.length≤17179869184)(hg:¬fR 10 bs):aQ aH 163 #[.string (aM bs)] w (Gv w (T2 (Is (i9 none 0 0)) (Is (a9 7)))):=by
 refine bL Tryz.func163 G (n:=8) G (bq G) (args:= [.string (aM bs)]) (bF [(0,.string (aM bs))] ⟨rfl,up⟩ (sr (mv 2 G (a1 (sr (mv 1 G (cl (vs:= [.string (aM bs),a9 10]) (Ext.refl w) (OG (base:=10) (by decide) (by decide) hbs hlen hg) G (by kernel_rfl) fun _ _ f _ e=>?_)))))))
 obtain⟨_,_,rfl,rfl,rfl⟩:=f
 refine pu (v:= i9 none 0 0) G (pu (v:= a9 7) G (mv 2 G (a1 (aU (aT [S0,a9 7] G ⟨rfl,rfl,up⟩ ?_)))))
 exact⟨_,rfl,⟨_,_,rfl,rfl,rfl⟩,e⟩
end
section
theorem IR (h:d<36):dv (sgn d)=d:=by
 unfold dv sgn
 by_cases h1:d<10
 ·rw [if_pos h1,if_pos (by omega)];omega
 ·rw [if_neg h1,if_neg (by omega),if_pos (by omega)];omega
end
section
open Go.RowKit
theorem yV {b:List Nat}(h:a=b):oU .eql a b=some true:=by simp [oU,h]
theorem yW {b:List Nat}(h:a≠b):oU .eql a b=some false:=by simp [oU,h]
theorem WX {A B:Int}{a:Nat}(ha:A=(a:Int))(hb:B=(b:Int))(h:b≤a)(h2:a≤255):eJ .sub .u8 A B=some ((a-b:Nat):Int):=by
 subst ha hb;simp only [eJ,eH];rw [show (a:Int)-(b:Int)=((a-b:Nat):Int) by omega,IntWalk.u8_in _ ⟨by omega,by omega⟩]
theorem r9 (h:∀c,c∈bs→dv c<base)(hbl:2≤base:=by decide)(hbu:base≤36:=by decide):(wd (d4 base (bs.map dv))).length≤bs.length:=by
 have:=sY (b:=base) hbu (BI h)
 rwa [List.length_map] at this
theorem uM (h:i<bs.length):bs.take (i+1)=bs.take i++ [bs.getD i 0]:=by
 rw [List.take_add_one,bE,bR h];rfl
end
section
def yR:List Nat→Bool
 | []=>false
 | c::r=>(decide (c=95)&&decide (r.headD 0=95))||yR r
def XH (l:List Nat):Prop:=∀c,c∈l→dv c<10∨c=95
end
section
open Go.ChangeShapes Go.WideShapes Go.ChangeAt Go.RowKit
theorem DV (bs:List Nat)(i j:Nat):(aM bs).extract i j=aM ((bs.take j).drop i):=by
 refine ByteArray.ext ?_
 rw [ByteArray.data_extract]
 unfold aM
 rw [List.extract_toArray,List.extract_eq_take_drop,s3,jN,List.drop_take]
theorem MP (bs:List Nat)(j:Nat):(aM bs).extract 0 j=aM (bs.take j):=by rw [DV,gQ]
theorem MR (bs:List Nat)(i:Nat):(aM bs).extract i (aM bs).size=aM (bs.drop i):=by rw [DV,dU,List.take_length]
section
variable {P:bV}{Q:dH→Act→a0→Prop}{n:Nat}{l:Fr}{w:a0}{ops:Array bB}{rest:List bB}{d:Nat}{ty:aV}{pos:String}{af:Array fD}{gd:Option (Nat×Bool)}
theorem EM {s:ByteArray}(ht:P.underlying t=some .string):(Instr.sliceAt t (.string s) low high none).run P w=(Instr.slice t (.string s) low high none).run P w:=by
 have e:(underlying t).run P w= .ok .string w:=kK ht w
 unfold Instr.sliceAt
 simp only [cA,e,eG]
theorem CY {x y:cG}(hw:d5 ops l gd=some true)(hx:bP l x=some (.string (aM bs)))(hy:bP l y=some (a9 (i:Int)))(ht:P.underlying t=some .string)(hi:i≤bs.length)(hn:d<n)(h:wl P ops Q n rest ((d,.string (aM (bs.take i)))::l) w):wl P ops Q n (⟨some d,.slice t x none (some y) none,ty,pos,af,gd⟩::rest) l w:=
 fJ hw hn (fun a' f=>by
  have e:(Instr.sliceAt t (a'.eval x) (Option.map a'.eval none) ((some y).map a'.eval) (Option.map a'.eval none)).run P w= .ok (.string (aM (bs.take i))) w:=by
   show (Instr.sliceAt t (a'.eval x) none (some (a'.eval y)) none).run P w=_
   rw [f.ev hx,f.ev hy,EM ht,run_slice_string_h (ht:=ht) (kh:= .i64) (h:=(i:Int)) (h0:=by omega) (h2:=by rw [dU];omega),gX,MP]
  show ((Instr.sliceAt t (a'.eval x) (Option.map a'.eval none) ((some y).map a'.eval) (Option.map a'.eval none)>>=fun r=>pure (gE r):Sem fU)).run P w=_
  rw [cA,e];rfl) h
theorem sA {x y:cG}(hw:d5 ops l gd=some true)(hx:bP l x=some (.string (aM bs)))(hy:bP l y=some (a9 (i:Int)))(ht:P.underlying t=some .string)(h:wl P ops Q n rest ((d,.string (aM (bs.drop i)))::l) w)(hi:i≤bs.length:=by omega)(hn:d<n:=by decide):wl P ops Q n (⟨some d,.slice t x (some y) none none,ty,pos,af,gd⟩::rest) l w:=
 fJ hw hn (fun a' f=>by
  have e:(Instr.sliceAt t (a'.eval x) ((some y).map a'.eval) (Option.map a'.eval none) (Option.map a'.eval none)).run P w= .ok (.string (aM (bs.drop i))) w:=by
   show (Instr.sliceAt t (a'.eval x) (some (a'.eval y)) none none).run P w=_
   rw [f.ev hx,f.ev hy,EM ht,run_slice_string_l (ht:=ht) (kl:= .i64) (l:=(i:Int)) (h0:=by omega) (h1:=by rw [dU];omega),gX,MR]
  show ((Instr.sliceAt t (a'.eval x) ((some y).map a'.eval) (Option.map a'.eval none) (Option.map a'.eval none)>>=fun r=>pure (gE r):Sem fU)).run P w=_
  rw [cA,e];rfl) h
end
end
section
open Go.RowKit
theorem I9 (hx:Own w b 65 1 A n c ((wd k).map bC))(hl:n≤1099511627776)(hy:Own w b' 65 1 B m d ((wd k).map bC))(hl':m≤1099511627776):aQ aH 108 #[i9 A n c,i9 B m d] w (Gv w (Is (no))):=by
 have h:=F8 (hx.rd (mX _)) hl (hy.rd (mX _)) hl'
 rw [decide_eq_true rfl] at h
 exact h.mono HW
theorem L0 (h:NewBk w w' g 65 [i5 3,i5 0]):Zi w' true (some ⟨g,0,none⟩) 2 2 (-3):=by
 refine⟨[3,0],⟨⟨rfl,aX _,by decide,fun i hi=>⟨_,rfl,?_⟩,fun a e _=>by cases e;exact h.bk.lt⟩,?_⟩,by decide+kernel⟩
 ·rw [iE,eQ,h.bk.cell (by simpa using hi)];rfl
 ·intro x hx
  rw [cC]
  rcases List.mem_cons.1 hx with rfl | hx
  ·decide
  ·rw [mD] at hx;subst hx;decide
def gK (zs:List Int):Int:=zs.foldl (fun s z=>s+z) 0
theorem SQ {α:Type}{l:List α}{d:α}(h:k<l.length):l.take (k+1)=l.take k++ [l.getD k d]:=by
 rw [List.take_add_one,bE,bR h];rfl
theorem yT (h:k<zs.length):gK (zs.take k)+zs.getD k 0=gK (zs.take (k+1)):=by
 rw [SQ (d:=0) h];unfold gK;rw [List.foldl_append];rfl
theorem vT (h:∀i,ln (zs.getD i 0)≤N)(k:Nat):ln (gK (zs.take k))≤N+k:=by
 induction k with
 | zero=>rw [List.take_zero];exact bJ _
 | succ k ih=>
  by_cases e:k<zs.length
  ·rw [←yT e];exact aE (dZ ih (h k)) (by omega)
  ·rw [List.take_of_length_le (by omega)] at ih⊢;omega
theorem jB (h:Zl w A n cap zs ms)(hm:∀i,ms.getD i 0≤N)(i:Nat):ln (zs.getD i 0)≤N:=by
 by_cases hi:i<n
 ·obtain⟨p,s,B,c,_,_,e⟩:=h.at hi
  exact aE e.ln (hm i)
 ·rw [bE,gW (by rw [h.len];omega)];exact bJ _
theorem IL {b1 b2:Nat}{nb cb:Nat}{x:Int}(ha:Zr w b1 sa Aa na ca x)(la:na≤1099511627776)(hb:Zr w b2 sb Ab nb cb x)(lb:nb≤1099511627776):aQ aH 75 #[J sa Aa na ca,J sb Ab nb cb] w (Gv w (Is (no))):=by
 refine bL Tryz.func75 G (n:=17) G (bq G) (args:= [J sa Aa na ca,J sb Ab nb cb]) (bF [(0,J sa Aa na ca),(1,J sb Ab nb cb)] ⟨rfl,rfl,up⟩ (sr (bx (O sa Aa na ca) (Ext.refl w) G G G fun r _ e _ D I=>(gN (O sb Ab nb cb) I e.lt G G G fun E _ f _ _ o q=>(mv 1 G (a1 (a7 ?_)))))))
 by_cases h:x<0
 ·obtain rfl:sa=true:=by rw [ha.sgn,decide_eq_true h]
  obtain rfl:sb=true:=by rw [hb.sgn,decide_eq_true h]
  refine a6 (pf r 0 G (aL G G (aP dB (e.ext o) G) (pf E 0 G (aL G G (aP dB f G) (pu (v:= no) G (mv 1 G (pf r 1 G (aL G G (aP bX (e.ext o) G) (pf E 1 G (aL G G (aP bX f G) (cl (vs:= [i9 Aa na ca,i9 Ab nb cb]) q (I9 (ha.ext (D.t o)).own la (hb.ext (D.t o)).own lb) G (by kernel_rfl) fun _ _ H _ p=>?_)))))))))))
  obtain rfl:=H
  refine pu (v:= no) G (mv 1 G (a1 (aU (aT [no] G ⟨rfl,up⟩ ?_))))
  exact⟨_,rfl,rfl,p⟩
 ·obtain rfl:sa=false:=by rw [ha.sgn,decide_eq_false h]
  obtain rfl:sb=false:=by rw [hb.sgn,decide_eq_false h]
  refine a6 (pf r 0 G (aL G G (aP dB (e.ext o) G) (pf E 0 G (aL G G (aP dB f G) (pu (v:= no) G (mv 1 G (pf r 1 G (aL G G (aP bX (e.ext o) G) (pf E 1 G (aL G G (aP bX f G) (cl (vs:= [i9 Aa na ca,i9 Ab nb cb]) q (I9 (ha.ext (D.t o)).own la (hb.ext (D.t o)).own lb) G (by kernel_rfl) fun _ _ F _ p=>?_)))))))))))
  obtain rfl:=F
  refine pu (v:= no) G (mv 1 G (a1 (aU (aT [no] G ⟨rfl,up⟩ ?_))))
  exact⟨_,rfl,rfl,p⟩
theorem UD (hS:Signs w):aQ aH 8 #[] w (Gv w (Is (no))):=by
 refine bL Tryz.func8 G (n:=29) G (bq G) (args:= []) (bF [] up (sr (mv 1 G (a1 (sr (fW G G (k:=2) (e:=65) [i5 3,i5 0] (fun _=>by kernel_rfl) fun g1 _ nb=>?_))))))
 have z4:=L0 nb
 have e3:=nb.ext
 clear nb
 have V:=(Ext.refl w).trans e3
 refine pu (v:= .agg #[no,i9 (some ⟨g1,0,none⟩) 2 2]) G (fW G G (k:=1) (e:=65) [i5 5] (fun _=>by kernel_rfl) fun g5 _ ab=>?_)
 have o8:=O1.mk_ (x:=5) (b:=w.heap.size) ab V.size
 have e9:=ab.ext
 have Z:=V.trans e9
 have aa:=qO o8 (by decide:5≤18446744073709551615) (by decide:5≠0)
 have L:=rC (by decide:5≤18446744073709551615) (by decide:5≠0)
 refine pu (v:= .agg #[F0,i9 (some ⟨g5,0,none⟩) 1 1]) G (cl (vs:= [.agg #[no,i9 (some ⟨g1,0,none⟩) 2 2],.agg #[F0,i9 (some ⟨g5,0,none⟩) 1 1]]) Z (I4 Z.size (z4.ext e9) (by decide) (C3 L aa).zi ((C3 L aa).le (aE (show ln ((5:Nat):Int)≤1 by rw [AP];exact (Nat.le_of_eq L.symm)) (by decide)))) G (by kernel_rfl) fun _ _ ai _ ak=>?_)
 obtain⟨F,H,E,M,rfl,q⟩:=ai
 refine al [F0,S0] ak (fun _=>by kernel_rfl) G fun I _ f Y D ag=>(so aB f (O F H E M) ag Y G G G G fun _ p r W=>(a1 (sr (lo aB p (O F H E M) G G G (d9 G G (vs:= [J F H E M]) (by kernel_rfl) (by decide) (by have h:=O0 (x:= -3*((5:Nat):Int)) ((q.ext D).updT f r).zi (q.le (aE (show ln (-3*((5:Nat):Int))≤1 by decide+kernel) (by decide))) (hS.ext W) (by decide+kernel);rw [show fE (-3*((5:Nat):Int))= [45,49,53] by decide+kernel] at h;exact h) ?_)))))
 rintro _ _ ⟨_,rfl,ah,o⟩
 refine dA ?_
 have ae:=W.trans o
 obtain rfl:=ah
 refine mv 1 G (a1 (a7 ?_))
 have U:=(((q.ext D).updT f r).ext o).len
 rw [show ln (-3*((5:Nat):Int))=1 by decide+kernel] at U
 obtain rfl:F=true:=by rw [(((q.ext D).updT f r).ext o).sgn];decide
 refine a6 (mv 1 G (pu (v:= no) G (mv 1 G (pf I 0 G (aL G G (aP dB (p.ext o) G) (pu (v:= no) G (mv 1 G (pf I 1 G (aL G G (aP bX (p.ext o) G) (pu (v:= a9 E) G (aA G G G true (dD (by omega)) (pu (v:= no) G (mv 1 G ?_)))))))))))))
 refine pf I 1 G (aL G G (aP bX (p.ext o) G) ?_)
 obtain⟨p9,aj,X,_⟩:=(((q.ext D).updT f r).ext o).rd.at (i:=0) (by omega)
 rw [show (wd (Int.natAbs (-3*((5:Nat):Int)))).getD 0 0=15 by decide+kernel] at X
 refine bK G G G bS bM 0 G p9 aj (aL G G (cT d7 X) (aA G G G true (by decide) (pu (v:= no) G (mv 1 G (a1 (aU (aT [no] G ⟨rfl,up⟩ ?_)))))))
 exact⟨_,rfl,rfl,ae⟩
theorem ST (hb:b≤w.heap.size)(hl:Zl w A n cap zs ms)(hn:n≤1048576)(hmb:∀i,ms.getD i 0≤16777216):aQ aH 71 #[i9 A n cap] w (Gv w (ZR b (gK zs))):=by
 have bj:∀i,ln (zs.getD i 0)≤16777216:=jB hl hmb
 refine bL Tryz.func71 G (n:=18) G (bq G) (args:= [i9 A n cap]) (bF [(0,i9 A n cap)] ⟨rfl,up⟩ (sr (al [F0,S0] (Ext.refl w) (fun _=>by kernel_rfl) G fun g1 _ ag au _ h=>(a1 (sr (pu (v:= .agg #[F0,S0]) G (cO [F0,S0] h ag.lt (fun _=>by kernel_rfl) G fun g6 _ bh L _ e8 p=>(so aB bh [F0,S0] p L G G G G fun av ao bg o=>(a1 (a7 (sr (mv 1 G (pu (v:= a9 n) G ?_)))))))))))))
 refine mv 1 G (a1 (bI ?_))
 refine cU (T:=a0×Nat×ZC)
  (fun⟨wr,k,kg⟩=> [(2,a4 g1 0),(3,a4 g6 0),(7,i9 A n cap),(8,a9 n),(9,a9 k)])
  (fun⟨wr,k,kg⟩=>wr)
  (fun⟨wr,k,kg⟩=>(Ext w wr)∧(k≤n)∧(Bk wr g1 24 [F0,S0])∧(Bk wr g6 24 (O kg.s kg.A kg.n kg.c))∧(Zr wr w.heap.size kg.s kg.A kg.n kg.c (gK (zs.take k))))
  (fun⟨wr,k,kg⟩=>n-k)
  (⟨av,0,⟨false,none,0,0⟩⟩:a0×Nat×ZC) ⟨o,bJ _,((ag.ext e8).vN bg),ao,Zr.zero⟩ G ⟨rfl,rfl,rfl,rfl,rfl,up⟩ ?_
 rintro⟨wr,k,kg⟩ ⟨h,_,b_2,b_3,zg⟩
 refine cR [(2,a4 g1 0),(3,a4 g6 0),(7,i9 A n cap),(8,a9 n),(9,a9 k)] wr G ⟨rfl,rfl,rfl,rfl,rfl,up⟩ ?_
 have ah:ln (gK (zs.take k))≤33554432:=aE (vT bj k) (by omega)
 refine a7 ?_
 by_cases bt:k<n
 ·refine a6 (aA G G G true (dG (a:=k) (b:=n) G G) (a1 (a7 (aY G (aW (aC (a7 (bI (sr ?_)))))))))
  obtain⟨ai,e,q,f,U,M,H⟩:=hl.at (i:=k) (by omega)
  refine bK G G G fQ aB.size k G ai U (aL G G (M _ h _ _ aB) (cO [F0,S0] h b_3.lt (fun _=>by kernel_rfl) G fun _ _ E ae _ r p=>(so aB E [.bool e,i9 q (ms.getD k 0) f] p ae G G G G fun _ Z D o=>(a1 (a6 (lo aB ((b_3.ext r).vN D) (O kg.s kg.A kg.n kg.c) G G G (lo aB Z [.bool e,i9 q (ms.getD k 0) f] G G G ?_)))))))
  have bm:ln ((gK (zs.take k))+(zs.getD k 0))≤33554433:=aE (dZ ah (aE H.ln (hmb k))) (by decide)
  refine cl (vs:= [J kg.s kg.A kg.n kg.c,.agg #[.bool e,i9 q (ms.getD k 0) f]]) o (nW o.size ((zg.ext r).updT E D).zi (zg.le (aO ah G)) (H.ext o) (aE (hmb k) (by decide))) G (by kernel_rfl) fun _ _ aq X ar=>?_
  obtain⟨ak,am,aj,ab,rfl,bi⟩:=aq
  have F:=(((b_3.ext r).vN D).ext X)
  refine so aB F (O ak am aj ab) ar L G G G G fun bd V aa az=>(aS (bG (aC (a6 (aR G G G ((k+1:Nat):Int) (bN (a:=k) (b:=1) G G) (mv 1 G (aS (bW (⟨bd,k+1,⟨ak,am,aj,ab⟩⟩:a0×Nat×ZC) ⟨az,(by omega),((((b_2.ext r).vN D).ext X).vN aa),V,((bi.updT F aa)).cast (yT (by rw [hl.len];omega))⟩ (show n-(k+1)<n-k by omega) G ⟨rfl,rfl,rfl,rfl,rfl,up⟩))))))))
 ·refine a6 (aA G G G false (cW (a:=k) (b:=n) G G) (a1 (a7 (aN G (cN (cI (cL (cM (aC (sr (lo aB b_3 (O kg.s kg.A kg.n kg.c) G G G ?_)))))))))))
  have I:=b_2
  refine so aB I (O kg.s kg.A kg.n kg.c) h au G G G G fun _ W bf p=>(a1 (aU (aT [J kg.s kg.A kg.n kg.c] G ⟨⟨_,rfl,bA aB W (O kg.s kg.A kg.n kg.c) G (bq G) rfl⟩,up⟩ ?_)))
  have Y:k=n:=by omega
  exact⟨_,rfl,⟨_,_,_,_,rfl,(((zg.updT I bf)).cast (show gK (zs.take k)=gK zs by rw [Y,List.take_of_length_le (by rw [hl.len];exact aX _)])).mono hb⟩,p⟩
theorem B4 {s t:Bool}{x y:Int}(hx:Zi w s A n cap x)(hl:n≤68719476736)(hy:Zi w t B m cap' y)(hl':m≤68719476736):aQ aH 65 #[J s A n cap,J t B m cap'] w (Gv w (Is (a9 (cX (Int.natAbs x) (Int.natAbs y))))):=by
 refine (KX hx hl hy hl').mono fun e w' h=>?_
 obtain⟨c,h1,_,_,rfl,h2⟩:=h
 exact⟨_,rfl,(show d8 .i64 c=_ by rw [h1.out]),h2⟩
theorem NX (x y:Int):(x<y∧bH x y= -1)∨(x=y∧bH x y=0)∨(y<x∧bH x y=1):=by unfold bH;split <;> (try split) <;> omega
theorem uR (x y z t:Int): -1≤bH x y*bH z t∧bH x y*bH z t≤1:=by
 rcases NX x y with⟨_,e⟩ | ⟨_,e⟩ | ⟨_,e⟩ <;> rw [e] <;> have:=EC z t <;> omega
theorem QO {x:Int}(h1: -9223372036854775807≤x)(h2:x≤9223372036854775807):d8 .i64 (IntKind.i64.wrap (0-x))= a9 (-x):=by rw [IntWalk.i64_in _ ⟨by omega,by omega⟩,Int.zero_sub]
theorem JB (h:y<x):cV .gtr (cX x y) 0=some true:=lC (h:=(tG.2 h))
theorem JC (h:x≤y):cV .gtr (cX x y) 0=some false:=pF (h:=(by have:=tG (a:=x) (b:=y);omega))
theorem I2 (hn:n=(wd m).length)(ho:Own w b 65 1 A n c ((wd m).map bC)):aQ aH 124 #[t9,i9 A n c] w (Gv w (ZR b ((m:Nat):Int))):=by
 refine (jP (s:=false) hn).mono ?_
 rintro e w' ⟨s',rfl,hs,hx⟩
 have f:s'=false:=by rw [hs.out,jW];exact decide_eq_false (by omega)
 subst f
 exact⟨_,rfl,⟨_,_,_,_,rfl,(C3 hn ho).ext hx⟩,hx⟩
theorem I1 (hn:n=(wd m).length)(ho:Own w b 65 1 A n c ((wd m).map bC)):aQ aH 124 #[no,i9 A n c] w (Gv w (ZR b (-((m:Nat):Int)))):=by
 refine (jP (s:=true) hn).mono ?_
 rintro e w' ⟨s',rfl,hs,hx⟩
 refine⟨_,rfl,⟨_,_,_,_,rfl,?_⟩,hx⟩
 exact (j1 (m:=m) (s:=true) (by rw [hs.out]) hn ho (kO m)).ext hx
def iM (bs:List Nat):Bool:=if bs.take 1= [43] then false else if bs.take 1= [45] then true else if bs.take 3= [226,136,146] then true else false
def eY (bs:List Nat):List Nat:=if bs.take 1= [43] then bs.drop 1 else if bs.take 1= [45] then bs.drop 1 else if bs.take 3= [226,136,146] then bs.drop 3 else bs
def mK (bs:List Nat):Int:=if iM bs=true then-((d4 10 ((eY bs).map dv):Nat):Int) else ((d4 10 ((eY bs).map dv):Nat):Int)
theorem UH (hbs:∀b,b∈bs→b<256)(hps:∀b,b∈ps→b<256):aQ aH 237 #[.string (aM bs),.string (aM ps)] w (Gv w (Is (.bool (decide (bs.take ps.length=ps))))):=by
 refine bL Tryz.func237 G (n:=18) G (bq G) (args:= [.string (aM bs),.string (aM ps)]) (bF [(0,.string (aM bs)),(1,.string (aM ps))] ⟨rfl,rfl,up⟩ (sr (mv 1 G (a1 (a7 ?_)))))
 by_cases o:bs.length≥ps.length
 ·by_cases f:bs.take ps.length=ps
  ·refine a6 (mv 1 G (dF G G (v:= a9 (((aM bs).size:Nat):Int)) (v':= a9 ((bs.length:Nat):Int)) (by rw [dU]) (mv 1 G (dF G G (v:= a9 (((aM ps).size:Nat):Int)) (v':= a9 ((ps.length:Nat):Int)) (by rw [dU]) (aA G G G true (fY (a:=bs.length) (b:=ps.length) G G) (mv 3 G (dF G G (v:= a9 (((aM ps).size:Nat):Int)) (v':= a9 ((ps.length:Nat):Int)) (by rw [dU]) (CY (bs:=bs) (i:=ps.length) G G G Tryz.underlying9 (by omega) (by decide) (mv 1 G (q9 (a:=bs.take ps.length) (b:=ps) G G G (fun b hb=>hbs b (oI hb)) hps true (yV (f)) (pu (v:= no) G (mv 1 G (aS ?_)))))))))))))
   refine aC (aU (aT [no] G ⟨rfl,up⟩ ?_))
   exact⟨_,rfl,(show Value.bool true=_ by rw [decide_eq_true f]),(Ext.refl w)⟩
  ·refine a6 (mv 1 G (dF G G (v:= a9 (((aM bs).size:Nat):Int)) (v':= a9 ((bs.length:Nat):Int)) (by rw [dU]) (mv 1 G (dF G G (v:= a9 (((aM ps).size:Nat):Int)) (v':= a9 ((ps.length:Nat):Int)) (by rw [dU]) (aA G G G true (fY (a:=bs.length) (b:=ps.length) G G) (mv 3 G (dF G G (v:= a9 (((aM ps).size:Nat):Int)) (v':= a9 ((ps.length:Nat):Int)) (by rw [dU]) (CY (bs:=bs) (i:=ps.length) G G G Tryz.underlying9 (by omega) (by decide) (mv 1 G (q9 (a:=bs.take ps.length) (b:=ps) G G G (fun b hb=>hbs b (oI hb)) hps false (yW (f)) (pu (v:= t9) G (mv 1 G (aS ?_)))))))))))))
   refine aC (aU (aT [F0] G ⟨rfl,up⟩ ?_))
   exact⟨_,rfl,(show Value.bool false=_ by rw [decide_eq_false f]),(Ext.refl w)⟩
 ·have f:bs.take ps.length≠ps:=fun e=>by have h:=congrArg List.length e;rw [dE] at h;omega
  refine a6 (mv 1 G (dF G G (v:= a9 (((aM bs).size:Nat):Int)) (v':= a9 ((bs.length:Nat):Int)) (by rw [dU]) (mv 1 G (dF G G (v:= a9 (((aM ps).size:Nat):Int)) (v':= a9 ((ps.length:Nat):Int)) (by rw [dU]) (aA G G G false (k9 (a:=bs.length) (b:=ps.length) G G) (mv 7 G (pu (v:= t9) G (mv 1 G (a1 (aU (aT [F0] G ⟨rfl,up⟩ ?_)))))))))))
  exact⟨_,rfl,(show Value.bool false=_ by rw [decide_eq_false f]),(Ext.refl w)⟩
theorem mU (hbs:∀b,b∈bs→b<256)(hps:∀b,b∈ps→b<256:=by decide):aQ aH 201 #[.string (aM bs),.string (aM ps)] w (Gv w (Is (.bool (decide (bs.take ps.length=ps))))):=by
 refine bL Tryz.func201 G (n:=8) G (bq G) (args:= [.string (aM bs),.string (aM ps)]) (bF [(0,.string (aM bs)),(1,.string (aM ps))] ⟨rfl,rfl,up⟩ (sr (mv 1 G (a1 (sr (mv 2 G (cl (vs:= [.string (aM bs),.string (aM ps)]) (Ext.refl w) (UH hbs hps) G (by kernel_rfl) fun _ _ f _ e=>?_)))))))
 obtain rfl:=f
 refine mv 1 G (a1 (aU (aT [.bool (decide (bs.take ps.length=ps))] G ⟨rfl,up⟩ ?_)))
 exact⟨_,rfl,rfl,e⟩
theorem ED (hbs:∀b,b∈bs→b<256)(hlen:bs.length≤17179869184):aQ aH 154 #[.string (aM bs)] w (fun e w'=>(fR 10 (eY bs)→Gv w (T2 (ZR w.heap.size (mK bs)) (Is (a9 0))) e w')∧(¬fR 10 (eY bs)→Gv w (T2 (Is (J false none 0 0)) (Is (a9 7))) e w')):=by
 refine bL Tryz.func154 G (n:=34) G (bq G) (args:= [.string (aM bs)]) (bF [(0,.string (aM bs))] ⟨rfl,up⟩ (sr (al [F0,S0] (Ext.refl w) (fun _=>by kernel_rfl) G fun _ v2 M U _ ag=>(mv 1 G (a1 (sr (mv 1 G (a1 (a7 (bI (a7 ?_)))))))))))
 by_cases p:bs.take 1= [43]
 ·have o:eY bs=bs.drop 1:=by unfold eY;rw [if_pos p]
  have W:iM bs=false:=by unfold iM;rw [if_pos p]
  have eh:1≤bs.length:=by have h:=congrArg List.length p;rw [dE] at h;simp only [gD,List.length_nil] at h;omega
  refine a6 (mv 1 G (d9 G G (vs:= [.string (aM bs),.string (aM ([43]))]) (by kernel_rfl) (by decide) (by have h:=mU (w:=v2) (bs:=bs) (ps:= [43]) hbs;rw [decide_eq_true (show bs.take ([43]:List Nat).length= [43] by exact p)] at h;exact h) ?_))
  rintro _ _ ⟨_,rfl,r8,e7⟩
  refine dA ?_
  have L:=ag.trans e7
  obtain rfl:=r8
  refine mv 1 G (a1 (aY G (a6 (mv 1 G (sA (bs:=bs) (i:=1) G G G Tryz.underlying9 (mv 1 G (aS (bG (aC (a7 ?_))))))))))
  have r:∀b,b∈bs.drop 1→b<256:=fun b hb=>hbs b (nF hb)
  have E:(bs.drop 1).length≤17179869184:=by rw [gS];omega
  by_cases D:fR 10 (bs.drop 1)
  ·have ar:=r9 (base:=10) D.2
   refine a6 (mv 1 G (cl (vs:= [.string (aM (bs.drop 1))]) L ((uW r E D).mono (Gv.imp (T2.imp (WR.imp L.size) Is.imp))) G (by kernel_rfl) fun _ _ gg ge F=>?_))
   obtain⟨_,_,rfl,⟨dx,ci,eg,rfl,gk,il⟩,rfl⟩:=gg
   refine mv 1 G (pu (v:= i9 dx ci eg) G (pu (v:= a9 0) G (mv 2 G (a1 (a7 (sr (mv 1 G (aA G G G false (by decide) (a1 (aN G (aW (aC (a7 ?_)))))))))))))
   refine a6 (mv 2 G (cl (vs:= [F0,i9 dx ci eg]) F (I2 gk il) G (by kernel_rfl) fun _ _ ez ik f=>?_))
   obtain⟨bj,bh,bz,bf,rfl,fd⟩:=ez
   have ai:=(M.ext (e7.t (ge.t ik)))
   refine so aB ai (O bj bh bz bf) f U G G G G fun _ cj el q=>(mv 1 G (a1 (aU (aT [J bj bh bz bf,I0] G ⟨⟨_,rfl,bA aB cj (O bj bh bz bf) G (bq G) rfl⟩,rfl,up⟩ (⟨fun _=>⟨_,rfl,⟨_,_,rfl,⟨_,_,_,_,rfl,?_⟩,rfl⟩,q⟩,fun h=>absurd (show fR 10 (eY bs) by rw [o];exact D) h⟩)))))
   have h:=(fd.updT ai el)
   rw [mK,W,o]
   exact h
  ·refine a6 (mv 1 G (cl (vs:= [.string (aM (bs.drop 1))]) L (uX r E D) G (by kernel_rfl) fun _ _ fe fq F=>?_))
   obtain⟨_,_,rfl,rfl,rfl⟩:=fe
   refine mv 1 G (pu (v:= i9 none 0 0) G (pu (v:= a9 7) G (mv 2 G (a1 (a7 (sr (mv 1 G (aA G G G true (by decide) (a1 (aY G (sr (pu (v:= .agg #[F0,S0]) G (mv 1 G ?_)))))))))))))
   have ee:=(M.ext (e7.t fq))
   refine so aB ee [F0,S0] F U G G G G fun _ dg _ f=>(mv 1 G (a1 (aU (bU (aT [.agg #[F0,S0],a9 7] G ⟨⟨_,rfl,bA aB dg [F0,S0] G (bq G) rfl⟩,rfl,up⟩ ?_)))))
   exact⟨fun h=>absurd (by rw [o] at h;exact h) D,fun _=>⟨_,rfl,⟨_,_,rfl,rfl,rfl⟩,f⟩⟩
 ·by_cases H:bs.take 1= [45]
  ·have o:eY bs=bs.drop 1:=by unfold eY;rw [if_neg p,if_pos H]
   have W:iM bs=true:=by unfold iM;rw [if_neg p,if_pos H]
   have eh:1≤bs.length:=by have h:=congrArg List.length H;rw [dE] at h;simp only [gD,List.length_nil] at h;omega
   refine a6 (mv 1 G (d9 G G (vs:= [.string (aM bs),.string (aM ([43]))]) (by kernel_rfl) (by decide) (by have h:=mU (w:=v2) (bs:=bs) (ps:= [43]) hbs;rw [decide_eq_false (show¬bs.take ([43]:List Nat).length= [43] by exact p)] at h;exact h) ?_))
   rintro _ fp ⟨_,rfl,gj,ce⟩
   refine dA ?_
   have L:=ag.trans ce
   obtain rfl:=gj
   refine mv 1 G (a1 (aN G (sr (mv 1 G (d9 G G (vs:= [.string (aM bs),.string (aM ([45]))]) (by kernel_rfl) (by decide) (by have h:=mU (w:=fp) (bs:=bs) (ps:= [45]) hbs;rw [decide_eq_true (show bs.take ([45]:List Nat).length= [45] by exact H)] at h;exact h) ?_)))))
   rintro _ _ ⟨_,rfl,fj,bu⟩
   refine dA ?_
   have F:=L.trans bu
   obtain rfl:=fj
   refine mv 1 G (a1 (aY G (a6 (mv 1 G (sA (bs:=bs) (i:=1) G G G Tryz.underlying9 (mv 2 G (aS (bG (aC (a7 ?_))))))))))
   have r:∀b,b∈bs.drop 1→b<256:=fun b hb=>hbs b (nF hb)
   have E:(bs.drop 1).length≤17179869184:=by rw [gS];omega
   by_cases D:fR 10 (bs.drop 1)
   ·have ar:=r9 (base:=10) D.2
    refine a6 (mv 1 G (cl (vs:= [.string (aM (bs.drop 1))]) F ((uW r E D).mono (Gv.imp (T2.imp (WR.imp F.size) Is.imp))) G (by kernel_rfl) fun _ _ fv fm f=>?_))
    obtain⟨_,_,rfl,⟨ef,cu,dz,rfl,fz,ig⟩,rfl⟩:=fv
    refine mv 1 G (pu (v:= i9 ef cu dz) G (pu (v:= a9 0) G (mv 2 G (a1 (a7 (sr (mv 1 G (aA G G G false (by decide) (a1 (aN G (aW (aC (a7 ?_)))))))))))))
    refine a6 (mv 2 G (cl (vs:= (O true ef cu dz)) f (I1 fz ig) G (by kernel_rfl) fun _ _ fw fx q=>?_))
    obtain⟨ba,bg,az,ch,rfl,fh⟩:=fw
    have ah:=(M.ext (ce.t (bu.t (fm.t fx))))
    refine so aB ah (O ba bg az ch) q U G G G G fun _ dm ep I=>(mv 1 G (a1 (aU (aT [J ba bg az ch,I0] G ⟨⟨_,rfl,bA aB dm (O ba bg az ch) G (bq G) rfl⟩,rfl,up⟩ (⟨fun _=>⟨_,rfl,⟨_,_,rfl,⟨_,_,_,_,rfl,?_⟩,rfl⟩,I⟩,fun h=>absurd (show fR 10 (eY bs) by rw [o];exact D) h⟩)))))
    have h:=(fh.updT ah ep)
    rw [mK,W,o]
    exact h
   ·refine a6 (mv 1 G (cl (vs:= [.string (aM (bs.drop 1))]) F (uX r E D) G (by kernel_rfl) fun _ _ fc en f=>?_))
    obtain⟨_,_,rfl,rfl,rfl⟩:=fc
    refine mv 1 G (pu (v:= i9 none 0 0) G (pu (v:= a9 7) G (mv 2 G (a1 (a7 (sr (mv 1 G (aA G G G true (by decide) (a1 (aY G (sr (pu (v:= .agg #[F0,S0]) G (mv 1 G ?_)))))))))))))
    have dy:=(M.ext (ce.t (bu.t en)))
    refine so aB dy [F0,S0] f U G G G G fun _ da _ q=>(mv 1 G (a1 (aU (bU (aT [.agg #[F0,S0],a9 7] G ⟨⟨_,rfl,bA aB da [F0,S0] G (bq G) rfl⟩,rfl,up⟩ ?_)))))
    exact⟨fun h=>absurd (by rw [o] at h;exact h) D,fun _=>⟨_,rfl,⟨_,_,rfl,rfl,rfl⟩,q⟩⟩
  ·by_cases V:bs.take 3= [226,136,146]
   ·have o:eY bs=bs.drop 3:=by unfold eY;rw [if_neg p,if_neg H,if_pos V]
    have W:iM bs=true:=by unfold iM;rw [if_neg p,if_neg H,if_pos V]
    have eh:3≤bs.length:=by have h:=congrArg List.length V;rw [dE] at h;simp only [gD,List.length_nil] at h;omega
    refine a6 (mv 1 G (d9 G G (vs:= [.string (aM bs),.string (aM ([43]))]) (by kernel_rfl) (by decide) (by have h:=mU (w:=v2) (bs:=bs) (ps:= [43]) hbs;rw [decide_eq_false (show¬bs.take ([43]:List Nat).length= [43] by exact p)] at h;exact h) ?_))
    rintro _ ie ⟨_,rfl,ij,bt⟩
    refine dA ?_
    have L:=ag.trans bt
    obtain rfl:=ij
    refine mv 1 G (a1 (aN G (sr (mv 1 G (d9 G G (vs:= [.string (aM bs),.string (aM ([45]))]) (by kernel_rfl) (by decide) (by have h:=mU (w:=ie) (bs:=bs) (ps:= [45]) hbs;rw [decide_eq_false (show¬bs.take ([45]:List Nat).length= [45] by exact H)] at h;exact h) ?_)))))
    rintro _ em ⟨_,rfl,fa,cg⟩
    refine dA ?_
    have F:=L.trans cg
    obtain rfl:=fa
    refine mv 1 G (a1 (aN G (sr (mv 1 G (d9 G G (vs:= [.string (aM bs),.string (aM ([226,136,146]))]) (by kernel_rfl) (by decide) (by have h:=mU (w:=em) (bs:=bs) (ps:= [226,136,146]) hbs;rw [decide_eq_true (show bs.take ([226,136,146]:List Nat).length= [226,136,146] by exact V)] at h;exact h) ?_)))))
    rintro _ _ ⟨_,rfl,ey,aw⟩
    refine dA ?_
    have f:=F.trans aw
    obtain rfl:=ey
    refine mv 1 G (a1 (aY G (a6 (mv 1 G (sA (bs:=bs) (i:=3) G G G Tryz.underlying9 (mv 2 G (aS (bG (aC (a7 ?_))))))))))
    have r:∀b,b∈bs.drop 3→b<256:=fun b hb=>hbs b (nF hb)
    have E:(bs.drop 3).length≤17179869184:=by rw [gS];omega
    by_cases D:fR 10 (bs.drop 3)
    ·have ar:=r9 (base:=10) D.2
     refine a6 (mv 1 G (cl (vs:= [.string (aM (bs.drop 3))]) f ((uW r E D).mono (Gv.imp (T2.imp (WR.imp f.size) Is.imp))) G (by kernel_rfl) fun _ _ fo fg q=>?_))
     obtain⟨_,_,rfl,⟨ea,df,cm,rfl,ft,fs⟩,rfl⟩:=fo
     refine mv 1 G (pu (v:= i9 ea df cm) G (pu (v:= a9 0) G (mv 2 G (a1 (a7 (sr (mv 1 G (aA G G G false (by decide) (a1 (aN G (aW (aC (a7 ?_)))))))))))))
     refine a6 (mv 2 G (cl (vs:= (O true ea df cm)) q (I1 ft fs) G (by kernel_rfl) fun _ _ gi ib I=>?_))
     obtain⟨au,aq,cf,bm,rfl,ia⟩:=gi
     have ak:=(M.ext (bt.t (cg.t (aw.t (fg.t ib)))))
     refine so aB ak (O au aq cf bm) I U G G G G fun _ dw go bd=>(mv 1 G (a1 (aU (aT [J au aq cf bm,I0] G ⟨⟨_,rfl,bA aB dw (O au aq cf bm) G (bq G) rfl⟩,rfl,up⟩ (⟨fun _=>⟨_,rfl,⟨_,_,rfl,⟨_,_,_,_,rfl,?_⟩,rfl⟩,bd⟩,fun h=>absurd (show fR 10 (eY bs) by rw [o];exact D) h⟩)))))
     have h:=(ia.updT ak go)
     rw [mK,W,o]
     exact h
    ·refine a6 (mv 1 G (cl (vs:= [.string (aM (bs.drop 3))]) f (uX r E D) G (by kernel_rfl) fun _ _ fk ew q=>?_))
     obtain⟨_,_,rfl,rfl,rfl⟩:=fk
     refine mv 1 G (pu (v:= i9 none 0 0) G (pu (v:= a9 7) G (mv 2 G (a1 (a7 (sr (mv 1 G (aA G G G true (by decide) (a1 (aY G (sr (pu (v:= .agg #[F0,S0]) G (mv 1 G ?_)))))))))))))
     have ck:=(M.ext (bt.t (cg.t (aw.t ew))))
     refine so aB ck [F0,S0] q U G G G G fun _ dh _ I=>(mv 1 G (a1 (aU (bU (aT [.agg #[F0,S0],a9 7] G ⟨⟨_,rfl,bA aB dh [F0,S0] G (bq G) rfl⟩,rfl,up⟩ ?_)))))
     exact⟨fun h=>absurd (by rw [o] at h;exact h) D,fun _=>⟨_,rfl,⟨_,_,rfl,rfl,rfl⟩,I⟩⟩
   ·have o:eY bs=bs:=by unfold eY;rw [if_neg p,if_neg H,if_neg V]
    have W:iM bs=false:=by unfold iM;rw [if_neg p,if_neg H,if_neg V]
    refine a6 (mv 1 G (d9 G G (vs:= [.string (aM bs),.string (aM ([43]))]) (by kernel_rfl) (by decide) (by have h:=mU (w:=v2) (bs:=bs) (ps:= [43]) hbs;rw [decide_eq_false (show¬bs.take ([43]:List Nat).length= [43] by exact p)] at h;exact h) ?_))
    rintro _ gf ⟨_,rfl,fy,bw⟩
    refine dA ?_
    have L:=ag.trans bw
    obtain rfl:=fy
    refine mv 1 G (a1 (aN G (sr (mv 1 G (d9 G G (vs:= [.string (aM bs),.string (aM ([45]))]) (by kernel_rfl) (by decide) (by have h:=mU (w:=gf) (bs:=bs) (ps:= [45]) hbs;rw [decide_eq_false (show¬bs.take ([45]:List Nat).length= [45] by exact H)] at h;exact h) ?_)))))
    rintro _ fb ⟨_,rfl,gy,av⟩
    refine dA ?_
    have F:=L.trans av
    obtain rfl:=gy
    refine mv 1 G (a1 (aN G (sr (mv 1 G (d9 G G (vs:= [.string (aM bs),.string (aM ([226,136,146]))]) (by kernel_rfl) (by decide) (by have h:=mU (w:=fb) (bs:=bs) (ps:= [226,136,146]) hbs;rw [decide_eq_false (show¬bs.take ([226,136,146]:List Nat).length= [226,136,146] by exact V)] at h;exact h) ?_)))))
    rintro _ _ ⟨_,rfl,dd,X⟩
    refine dA ?_
    have f:=F.trans X
    obtain rfl:=dd
    refine mv 1 G (a1 (aN G (aW (bG (aC (a7 ?_))))))
    have r:∀b,b∈bs→b<256:=hbs
    have E:(bs).length≤17179869184:=by omega
    by_cases D:fR 10 (bs)
    ·have ar:=r9 (base:=10) D.2
     refine a6 (mv 1 G (cl (vs:= [.string (aM bs)]) f ((uW r E D).mono (Gv.imp (T2.imp (WR.imp f.size) Is.imp))) G (by kernel_rfl) fun _ _ ei cv q=>?_))
     obtain⟨_,_,rfl,⟨aj,am,ao,rfl,ct,du⟩,rfl⟩:=ei
     refine mv 1 G (pu (v:= i9 aj am ao) G (pu (v:= a9 0) G (mv 2 G (a1 (a7 (sr (mv 1 G (aA G G G false (by decide) (a1 (aN G (aW (aC (a7 ?_)))))))))))))
     refine a6 (mv 2 G (cl (vs:= [F0,i9 aj am ao]) q (I2 ct du) G (by kernel_rfl) fun _ _ dr dl I=>?_))
     obtain⟨ab,Y,Z,ae,rfl,cx⟩:=dr
     have aa:=(M.ext (bw.t (av.t (X.t (cv.t dl)))))
     refine so aB aa (O ab Y Z ae) I U G G G G fun _ bv de bd=>(mv 1 G (a1 (aU (aT [J ab Y Z ae,I0] G ⟨⟨_,rfl,bA aB bv (O ab Y Z ae) G (bq G) rfl⟩,rfl,up⟩ (⟨fun _=>⟨_,rfl,⟨_,_,rfl,⟨_,_,_,_,rfl,?_⟩,rfl⟩,bd⟩,fun h=>absurd (show fR 10 (eY bs) by rw [o];exact D) h⟩)))))
     have h:=(cx.updT aa de)
     rw [mK,W,o]
     exact h
    ·refine a6 (mv 1 G (cl (vs:= [.string (aM bs)]) f (uX r E D) G (by kernel_rfl) fun _ _ dt co q=>?_))
     obtain⟨_,_,rfl,rfl,rfl⟩:=dt
     refine mv 1 G (pu (v:= i9 none 0 0) G (pu (v:= a9 7) G (mv 2 G (a1 (a7 (sr (mv 1 G (aA G G G true (by decide) (a1 (aY G (sr (pu (v:= .agg #[F0,S0]) G (mv 1 G ?_)))))))))))))
     have bo:=(M.ext (bw.t (av.t (X.t co))))
     refine so aB bo [F0,S0] q U G G G G fun _ bi _ I=>(mv 1 G (a1 (aU (bU (aT [.agg #[F0,S0],a9 7] G ⟨⟨_,rfl,bA aB bi [F0,S0] G (bq G) rfl⟩,rfl,up⟩ ?_)))))
     exact⟨fun h=>absurd (by rw [o] at h;exact h) D,fun _=>⟨_,rfl,⟨_,_,rfl,rfl,rfl⟩,I⟩⟩
theorem O3 (hb:b≤w.heap.size){z:Int}(hbs:∀b,b∈bs→b<256)(hlen:bs.length≤17179869184)(ht:eY bs=tl)(hg:fR 10 tl)(hz:mK bs=z):aQ aH 154 #[.string (aM bs)] w (Gv w (T2 (ZR b z) (Is (a9 0)))):=
 (ED hbs hlen).mono fun e w' h=>by have h2:=h.1 (by rw [ht];exact hg);rw [hz] at h2;exact Gv.imp (T2.imp (ZR.imp hb) Is.imp) _ _ h2
theorem O2 (hbs:∀b,b∈bs→b<256)(hlen:bs.length≤17179869184)(ht:eY bs=tl)(hg:¬fR 10 tl):aQ aH 154 #[.string (aM bs)] w (Gv w (T2 (Is (J false none 0 0)) (Is (a9 7)))):=
 (ED hbs hlen).mono fun e w' h=>h.2 (by rw [ht];exact hg)
theorem NZ {x:Int}(hx:Zi w sa Aa na ca x)(la:na≤4194304)(hS:Signs w):aQ aH 40 #[J sa Aa na ca] w (Gv w (Is (.string (aM (fE x))))):=by
 have Lx:ln x≤4194304:=aE hx.ln la
 refine bL Tryz.func40 G (n:=13) G (bq G) (args:= [J sa Aa na ca]) (bF [(0,J sa Aa na ca)] ⟨rfl,up⟩ (sr (bx (O sa Aa na ca) (Ext.refl w) G G G fun F _ h _ _ p=>(mv 1 G (a1 (sr (pf F 1 G (aL G G (aP bX h G) (cl (vs:= [i9 Aa na ca]) p (OM (hS.ext p) (hx.ext p).wi (by omega)) G (by kernel_rfl) fun _ _ H E e=>?_)))))))))
 obtain rfl:=H
 refine mv 1 G (a1 (a7 (a7 ?_)))
 by_cases o:x<0
 ·refine a6 (lo aB (h.ext E) (O sa Aa na ca) G G G (cl (vs:= [J sa Aa na ca]) e (tA (hx.ext e) (aO la G)) G (by kernel_rfl) fun _ _ D _ f=>?_))
  obtain rfl:=D
  refine aA G G G true (zF o) (a1 (aY G (sr (mv 1 G (nI G G G (r:= .string (aM (([45])++(dS 10 (Int.natAbs x))))) G (fun w=>yU (a:= [45]) (b:=dS 10 (Int.natAbs x)) (by have:=yQ (b:=10) (show (wd (Int.natAbs x)).length≤4194304 from Lx);show 1+_≤_;omega)) (mv 1 G (a1 (aU (bU (aT [.string (aM (([45])++(dS 10 (Int.natAbs x))))] G ⟨rfl,up⟩ ?_))))))))))
  exact⟨_,rfl,(show Value.string _= .string (aM (fE x)) by rw [fE,if_pos o]),f⟩
 ·refine a6 (lo aB (h.ext E) (O sa Aa na ca) G G G (cl (vs:= [J sa Aa na ca]) e (tA (hx.ext e) (aO la G)) G (by kernel_rfl) fun _ _ q _ f=>?_))
  obtain rfl:=q
  refine aA G G G false (zG) (a1 (aN G (aW (aC (sr (mv 2 G (a1 (aU (aT [.string (aM (dS 10 (Int.natAbs x)))] G ⟨rfl,up⟩ ?_)))))))))
  exact⟨_,rfl,(show Value.string _= .string (aM (fE x)) by rw [fE,if_neg o]),f⟩
theorem pE:(Tryz.prog.info? 3).map (fun i=>(i.zero,i.size,i.bytes))=some (some (a9 0),1,8):=by kernel_rfl
abbrev I6 (x:Nat):aD:= a9 (x:Int)
theorem oZ (xs:List Nat)(i x:Nat):(xs.map I6).set i (a9 (x:Int))=(xs.set i x).map I6:=by rw [List.map_set]
theorem vE (n:Nat):cJ n (d8 .i64 0)=(cJ n 0).map I6:=by rw [List.map_replicate];rfl
structure Ri (b:Nat)(w:a0)(A:Option a8)(n cap:Nat)(ds:List Nat):Prop where
 rv:Rv w 1 A n cap (ds.map I6)
 wf:Wfb b ds
theorem Ri.ext (h:Ri b w A n cap xs)(e:Ext w w'):Ri b w' A n cap xs:=⟨h.rv.ext e,h.wf⟩
theorem Ri.len (h:Ri b w A n cap xs):xs.length=n:=by simpa using h.rv.len
theorem Ri.get (hb:0<b)(h:Ri b w A n cap xs)(hi:i<n):∃a x,A=some a∧Hid (xs.getD i 0=x)∧x<b∧w.cell? (a.add i)=some (a9 (x:Int)):=by
 obtain⟨a,f,e⟩:=h.rv.get i (by omega)
 have hl:i<xs.length:=by rw [h.len];exact hi
 refine⟨a,_,f,rfl,iT h.wf i (hb:=hb),?_⟩
 rw [e]
 simp [bE,iK,bR hl]
theorem Bk.digit (hb:0<b)(h:Bk w g t (xs.map I6))(hw:Wfb b xs)(hi:i<xs.length):∃x,Hid (xs.getD i 0=x)∧x<b∧w.cell? ⟨g,i,none⟩=some (a9 (x:Int)):=by
 refine⟨_,rfl,iT hw i (hb:=hb),?_⟩
 rw [h.cell (by simpa using hi)]
 simp [bE,iK,bR hi]
theorem Bk.ri (h:Bk w g t (xs.map I6))(hw:Wfb b xs){o:Nat}(hn:n≤cap)(hc:o+cap≤xs.length)(hm:cap≤maxLen):Ri b w (some ⟨g,o,none⟩) n cap ((xs.drop o).take n):=by
 refine⟨?_,jE (C5 hw _) _⟩
 rw [jN,s3]
 exact h.rv hn (by simpa using hc) hm
theorem Rv.take (h:Rv w s A n cap vs)(hk:k≤n)(hm:k≤m)(hc:m≤cap):Rv w s A k m (vs.take (k*s)):=by
 have:=h.cut (l:=0) (bJ _) hk hm hc
 simp only [Nat.sub_zero,Nat.zero_mul,gQ] at this
 have e:(if m=0 then A else A.map (·.add 0))=A:=by
  have h0:∀a:a8,a.add 0=a:=fun a=>by simp [Addr.add]
  split
  ·rfl
  ·cases A <;> simp [h0]
 rwa [e] at this
theorem Own.take (h:Own w base t s A n cap vs)(hk:k≤n):Own w base t s A k cap (vs.take (k*s)):=by
 rcases h with⟨rfl,rfl,rfl,rfl⟩ | ⟨g,cs,rfl,hb,e,hn,f,hl,rfl⟩
 ·exact cD ⟨rfl,by omega,rfl,by simp⟩
 ·refine bT ⟨g,cs,rfl,hb,e,by omega,f,hl,?_⟩
  rw [List.take_take,g7 (eC s hk)]
def CA (w:a0)(m:Nat)(e:Ending)(w':a0):Prop:=
 ∃A n cap,e= .returned (i9 A n cap)∧Hid (n=(db 65536 m).length)∧Ri 65536 w' A n cap (db 65536 m)∧Own w' w.heap.size 3 1 A n cap ((db 65536 m).map I6)∧Ext w w'
theorem fZ:2≤65536:=by decide
theorem pM:WB=65536^4:=by decide
def WZ (A:Option a8)(n cap:Nat)(m:Nat)(w:a0)(e:Ending)(w':a0):Prop:=
 ∃k:Nat,Hid (k=(db 65536 m).length)∧k≤n∧e= .returned (i9 A k cap)∧w=w'
theorem F6 (hx:Ri 65536 w A n cap ds)(hl:n≤1099511627776):aQ aH 221 #[i9 A n cap] w (WZ A n cap (nb 65536 ds) w):=by
 have hlen:=Lib.hid hx.len
 have hcap:=hx.rv.le
 go_enter Tryz.func221,Tryz.ntmps221
 go_wp2_with fail
 go_loop [3] (fun u=>∃k:Nat,k≤n∧u= a9 (k:Int)∧nb 65536 (ds.take k)=nb 65536 ds) (fun u=>(intOf u).toNat)
 case atStart=>exact⟨n,aX _,rfl,by rw [←hlen.out,List.take_length]⟩
 case round=>
  obtain⟨k,hk,rfl,hv⟩:=hrel
  have HV:=Lib.hid hv
  clear hv
  by_cases h0:0<k
  ·obtain⟨a,x,rfl,hxk,hxb,hc⟩:=hx.get (by omega) (i:=k-1) (by omega)
   by_cases hz:x=0
   ·subst hz
    go_wp2_with fail
    go_round
    case rel=>
     refine⟨k-1,by omega,by congr 1;omega,?_⟩
     rw [←HV.out,←vL 65536 ds (k-1) (by rw [hlen.out];omega) hxk.out,iH h0]
    case measure=>simp [intOf];omega
   ·have hzb:((x:Int)==0)=false:=by simp;omega
    go_wp2_with fail
    go_ret
    refine⟨k,?_,hk,?_,rfl⟩
    ·have:=wV fZ (k:=k) hx.wf (by rw [hlen.out];exact hk) HV.out (bT (by rw [hxk.out];exact hz))
     show k=_
     rw [this,dE,hlen.out];omega
    ·rfl
  ·go_wp2_with fail
   go_ret
   refine⟨k,?_,hk,?_,rfl⟩
   ·have:=wV fZ (k:=k) hx.wf (by rw [hlen.out];exact hk) HV.out (cD (by omega))
    show k=_
    rw [this,dE,hlen.out];omega
   ·rfl
theorem MV {w:Nat}(hl:ds.length=n)(h:nb 65536 ds+65536^n*w=x):nb 65536 (ds++ [w%65536])+65536^(n+1)*(w/65536)=x:=by
 rw [AB,hl,dJ,bY,j5,←cZ,jF]
 exact h
theorem oX (hx:Rd w A n cap xs)(hl:n≤274877906943):aQ aH 177 #[i9 A n cap] w (CA w (nv xs)):=by
 have hlx:=Lib.hid hx.len
 have hmk:=EP (P:=aH) Tryz.underlying140 pE G (by decide) (4*(n:Int)) (by omega) (by omega)
 have et:(4*(n:Int)).toNat=4*n:=by omega
 rw [et] at hmk
 clear et
 go_enter Tryz.func177,Tryz.ntmps177
 go_wp2_with fail
 clear hmk
 obtain⟨g,hg⟩:∃g,w.heap.size=g:=⟨_,rfl⟩
 rw [hg]
 obtain⟨wa,hwa⟩:∃wa,w.alloc (.cells (zc (.int .i64 0) (4*n)) 3)=wa:=⟨_,rfl⟩
 rw [hwa]
 have hoa:Own wa w.heap.size 3 1 (some ⟨g,0,none⟩) 0 (4*n) (([]:List Nat).map I6):=by
  rw [←hwa,←hg]
  exact Own.mk_ (cs:=cJ (4*n) (a9 0)) (aX _) (Bk.new' _ _ _) (by omega) (by rw [eA];omega) (by simp) (by simp)
 have hea:Ext w wa:=by rw [←hwa];exact (Ext.refl w).alloc _
 clear hg hwa
 go_loopw [4,3] (fun u v wr=>∃(i:Nat) (A':Option a8) (c':Nat) (ds:List Nat),i≤n∧u= a9 (i:Int)∧v= i9 A' (4*i) c'∧Own wr w.heap.size 3 1 A' (4*i) c' (ds.map I6)∧Wfb 65536 ds∧
  Hid (ds.length=4*i)∧Hid (nb 65536 ds=nv (xs.take i))∧Ext w wr) (fun u v wr=>n-(intOf u).toNat)
 case atStart=>exact⟨0,_,_,[],bJ _,rfl,rfl,hoa,C4 _,rfl,rfl,hea⟩
 case round=>
  obtain⟨i,A',c',ds,hi,rfl,rfl,ho,hw,hdl,hv,hr⟩:=hrel
  clear hoa hea
  by_cases him:i<n
  ·obtain⟨a,x,rfl,hxk,hxb,hcx⟩:=(hx.ext hr).get (i:=i) (by omega)
   go_wp2_with fail
   obtain⟨wo,rfl⟩:∃wo:a0,wo=wr:=⟨_,rfl⟩
   go_loopw [6,3,5] (fun u v y wr=>∃(k:Nat) (A':Option a8) (c':Nat) (ds:List Nat) (q:Nat),k≤4∧u= a9 (k:Int)∧v= i9 A' (4*i+k) c'∧y= i5 (q:Int)∧q≤18446744073709551615∧Own wr w.heap.size 3 1 A' (4*i+k) c' (ds.map I6)∧Wfb 65536 ds∧
    Hid (ds.length=4*i+k)∧Hid (nb 65536 ds+65536^(4*i+k)*q=nv (xs.take (i+1)))∧Hid (q*65536^k<WB)∧Ext w wr) (fun u v y wr=>4-(intOf u).toNat)
   case atStart=>
    refine⟨0,_,_,ds,x,bJ _,rfl,rfl,rfl,hxb,ho,hw,hdl,?_,?_,hr⟩
    ·show _=_
     rw [hv.out,eL xs i (by rw [hlx.out];omega),hxk.out,pM,←Nat.pow_mul];rfl
    ·show _<_
     rw [cC];omega
   case round=>
    obtain⟨k,A2,c2,es,q,hk,rfl,rfl,rfl,hqb,ho2,hw2,hel,hev,hq,hr2⟩:=hrel
    clear ho hw hdl hv
    by_cases hk4:k<4
    ·have r1:(4*i+k+1)*8≤140737488355328:=by omega
     go_wp2_with ((with_reducible refine cK (some 30) ?_);refine CX G (.tmp 25) (.tmp 29) 140 G G G Tryz.underlying140 pE G (by decide) (ho2.ext (aK.alloc _)) (Rv.one _ _ _) (by simp [Value.oneCell']) r1 (by rw [eA];omega) (by have:=hr2.size;simp;omega) ?_;intro A3 c3 w3 ho3 hu3 _)
     have he3:Ext w w3:=hu3.ext (hr2.alloc _) (fun p hp=>(ho2.block p hp).1)
     go_roundw
     case rel=>
      refine⟨k+1,A3,c3,es++ [q%65536],q/65536,by omega,by go_num,rfl,by go_num,by omega,?_,xJ hw2 (WY (by omega)),?_,MV hel.out hev.out,?_,he3⟩
      ·have:(es++ [q%65536]).map I6=es.map I6++ [a9 ((q:Int)%65536)]:=by simp
       rw [this];exact ho3
      ·show _=_
       rw [eN,hel.out];rfl
      ·show _<_
       have h2:q/65536*65536≤q:=Nat.div_mul_le_self q 65536
       calc q/65536*65536^(k+1)=(q/65536*65536)*65536^k:=by rw [dJ,cY (65536^k),bY]
        _≤q*65536^k:=eC _ h2
        _<WB:=hq.out
     case measure=>simp [intOf];omega
    ·obtain rfl:k=4:=by omega
     have hq0:q=0:=by
      have h:=hq.out
      rw [cC] at h
      omega
     go_wp2_with fail
     go_roundw
     case rel=>
      refine⟨i+1,A2,c2,es,by omega,by go_num,rfl,ho2,hw2,hel.out,?_,hr2⟩
      show _=_
      have h:=hev.out
      rw [hq0,gJ,eS] at h
      exact h
     case measure=>simp [intOf];omega
  ·obtain rfl:i=n:=by omega
   have hri:Ri 65536 wr A' (4*i) c' ds:=⟨ho.rv,hw⟩
   go_wp2_with fail
   refine (F6 hri (by omega)).mono ?_
   rintro e w' ⟨k,hk,hkn,rfl,rfl⟩
   go_wp2_with fail
   go_ret
   have e:nb 65536 ds=nv xs:=by rw [hv.out,←hlx.out,List.take_length]
   have e2:=BM fZ hw hk.out
   rw [e] at e2
   have hot:=ho.take hkn
   rw [dK,←jN,←e2] at hot
   refine⟨A',k,c',rfl,?_,⟨hot.rv,kX fZ _⟩,hot,hr⟩
   show _=_
   rw [hk.out,e]
theorem vH (hx:Ri 65536 w A n cap ds)(hl:n≤1099511627775):aQ aH 179 #[i9 A n cap] w (j2 w (nb 65536 ds)):=by
 go_enter Tryz.func179,Tryz.ntmps179
 go_wp2_with fail
 refine (F6 hx (by omega)).mono ?_
 rintro e w' ⟨k,hk,hkn,rfl,rfl⟩
 obtain⟨es,hes⟩:∃es,es=db 65536 (nb 65536 ds):=⟨_,rfl⟩
 have hes2:es=ds.take k:=by rw [hes];exact BM fZ hx.wf hk.out
 have hlen:=Lib.hid hx.len
 have he:Ri 65536 w A k cap es:=by
  have h:=hx.rv.take (k:=k) (m:=cap) hkn (by have:=hx.rv.le;omega) (aX _)
  rw [dK,←jN,←hes2] at h
  exact⟨h,by rw [hes2];exact jE hx.wf _⟩
 have hel:=Lib.hid he.len
 have hval:Hid (nb 65536 es=nb 65536 ds):=by show _=_;rw [hes,iO fZ]
 have htop:Hid (k=0∨65536^(k-1)≤nb 65536 ds):=by
  by_cases h0:nb 65536 ds=0
  ·left
   have h:=hk.out
   rw [h0,jK] at h
   exact h
  ·right
   have:=FG fZ h0
   rwa [←hk.out] at this
 clear hes hes2 hk
 have hmk:=EP (P:=aH) Tryz.underlying22 iB G (by decide) ((k:Int)/4+1) (by omega) (by omega)
 have et:((k:Int)/4+1).toNat=k/4+1:=by omega
 rw [et] at hmk
 clear et
 go_wp2_with fail
 clear hmk
 obtain⟨g,hg⟩:∃g,w.heap.size=g:=⟨_,rfl⟩
 rw [hg]
 obtain⟨wa,hwa⟩:∃wa,w.alloc (.cells (zc (.int .u64 0) (k/4+1)) 65)=wa:=⟨_,rfl⟩
 rw [hwa]
 have hoa:Own wa w.heap.size 65 1 (some ⟨g,0,none⟩) 0 (k/4+1) (([]:List Nat).map bC):=by
  rw [←hwa,←hg]
  exact Own.mk_ (cs:=cJ (k/4+1) (i5 0)) (aX _) (Bk.new' _ _ _) (by omega) (by rw [eA];omega) (by simp) (by simp)
 have hea:Ext w wa:=by rw [←hwa];exact (Ext.refl w).alloc _
 clear hg hwa
 go_loopw [4,3] (fun u v wr=>∃(i:Nat) (A':Option a8) (c':Nat) (ws:List Nat),4*i≤k+3∧u= a9 (4*(i:Int))∧v= i9 A' i c'∧Own wr w.heap.size 65 1 A' i c' (ws.map bC)∧Wf ws∧
  Hid (ws.length=i)∧Hid (nv ws=nb 65536 (es.take (4*i)))∧Ext w wr) (fun u v wr=>k+4-(intOf u).toNat)
 case atStart=>exact⟨0,_,_,[],by omega,rfl,rfl,hoa,JZ,rfl,rfl,hea⟩
 case round=>
  obtain⟨i,A',c',ws,hi,rfl,rfl,ho,hw,hwl,hv,hr⟩:=hrel
  clear hoa hea
  by_cases him:4*i<k
  ·go_wp2_with fail
   obtain⟨wo,rfl⟩:∃wo:a0,wo=wr:=⟨_,rfl⟩
   go_loop [6,5] (fun u v=>∃(j q:Nat),j≤4∧u= a9 ((j:Int)-1)∧v= i5 (q:Int)∧Hid (q=nb 65536 ((es.drop (4*i+j)).take (4-j)))) (fun u v=>(intOf u+1).toNat)
   case atStart=>exact⟨4,0,aX _,rfl,rfl,by simp [Hid,nb]⟩
   case round=>
    obtain⟨j,q,hj,rfl,rfl,hq⟩:=hrel
    have hqlt:q<65536^(4-j):=by
     rw [hq.out]
     have h1:=nS (jE (C5 he.wf (4*i+j)) (4-j))
     have h2:65536^(List.take (4-j) (List.drop (4*i+j) es)).length≤65536^(4-j):=eW (by omega) (by rw [dE];omega)
     omega
    by_cases hj0:0<j
    ·have hqb:q≤281474976710655:=by
      have:(65536:Nat)^(4-j)≤65536^3:=eW (by omega) (by omega)
      omega
     clear hqlt
     have hstep:Hid (es.getD (4*i+(j-1)) 0+65536*q=nb 65536 ((es.drop (4*i+(j-1))).take (4-(j-1)))):=by
      show _=_
      have e2:4-(j-1)=(4-j)+1:=by omega
      have e3:4*i+(j-1)+1=4*i+j:=by omega
      rw [e2,G0,e3,hq.out]
     by_cases hin:4*i+(j-1)<k
     ·obtain⟨a,x,rfl,hxk,hxb,hcx⟩:=(he.ext hr).get (by omega) (i:=4*i+(j-1)) (by omega)
      have hin':4*(i:Int)+((j:Int)-1)<(k:Int):=by omega
      go_wp2_with fail
      go_round
      case rel=>exact⟨j-1,x+65536*q,by omega,fP,fP,by show _=_;rw [←hstep.out,hxk.out]⟩
      case measure=>simp [intOf];omega
     ·have hin':¬4*(i:Int)+((j:Int)-1)<(k:Int):=by omega
      go_wp2_with fail
      go_round
      case rel=>exact⟨j-1,65536*q,by omega,fP,fP,by show _=_;rw [←hstep.out,bE,gW (by rw [hel.out];omega)];simp⟩
      case measure=>simp [intOf];omega
    ·obtain rfl:j=0:=by omega
     have hqW:q<WB:=by rw [pM];exact hqlt
     clear hqlt
     have r1:(i+1)*8≤140737488355328:=by omega
     go_wp2_with ((with_reducible refine cK (some 44) ?_);refine CX G (.tmp 41) (.tmp 43) 22 G G G Tryz.underlying22 iB G (by decide) (ho.ext (aK.alloc _)) (Rv.one _ _ _) (by simp [Value.oneCell']) r1 (by rw [eA];omega) (by have:=hr.size;simp;omega) ?_;intro A3 c3 w3 ho3 hu3 _)
     have he3:Ext w w3:=hu3.ext (hr.alloc _) (fun p hp=>(ho.block p hp).1)
     go_roundw
     case rel=>
      refine⟨i+1,A3,c3,ws++ [q],by omega,fP,rfl,?_,tN hw (C6 hqW),?_,?_,he3⟩
      ·have:(ws++ [q]).map bC=ws.map bC++ [i5 (q:Int)]:=by simp
       rw [this];exact ho3
      ·show _=_
       rw [eN,hwl.out];rfl
      ·show _=_
       rw [FU,hwl.out,hv.out,show 4*(i+1)=4*i+4 from by omega,FZ 65536 es (4*i) 4 (by rw [hel.out];omega),hq.out,pM,←Nat.pow_mul]
       rfl
     case measure=>simp [intOf];omega
  ·go_wp2_with fail
   go_ret
   have e1:nv ws=nb 65536 ds:=by rw [hv.out,List.take_of_length_le (by rw [hel.out];omega),hval.out]
   have e2:wd (nv ws)=ws:=by
    refine D6 hw ?_
    rw [hwl.out,e1]
    by_cases h0:i=0
    ·exact cD h0
    ·refine bT ?_
     rcases htop.out with h | h
     ·omega
     ·refine aE ?_ h
      rw [pM,←Nat.pow_mul]
      exact eW (by omega) (by omega)
   rw [←e1]
   rw [←e2] at ho
   refine⟨A',i,c',rfl,?_,ho.rd (by rw [e2];exact hw),ho,hr⟩
   show _=_
   rw [e2,hwl.out]
theorem F7 (hx:Ri 65536 w A n cap (db 65536 x))(hl:n≤1099511627776)(hy:Ri 65536 w B n' cap' (db 65536 y))(hl':n'≤1099511627776):aQ aH 186 #[i9 A n cap,i9 B n' cap'] w (rR x y w):=by
 have hlx:=Lib.hid hx.len
 have hly:=Lib.hid hy.len
 rcases Nat.lt_trichotomy n n' with hlt | rfl | hgt
 ·have h1:((n:Int) != (n':Int))=true:=by simp;omega
  go_enter Tryz.func186,Tryz.ntmps186
  go_wp2_with fail
  go_ret
  exact mA (wZ (GB fZ (by rw [hlx.out,hly.out];exact hlt))) (Ext.refl w)
 ·have h1:((n:Int) != (n:Int))=false:=by simp
  obtain⟨ds,hds⟩:∃ds,ds=db 65536 x:=⟨_,rfl⟩
  obtain⟨es,hes⟩:∃es,es=db 65536 y:=⟨_,rfl⟩
  have hvx:=Lib.hid (show nb 65536 ds=x by rw [hds,iO fZ])
  have hvy:=Lib.hid (show nb 65536 es=y by rw [hes,iO fZ])
  rw [←hds] at hx hlx
  rw [←hes] at hy hly
  clear hds hes
  go_enter Tryz.func186,Tryz.ntmps186
  go_wp2_with fail
  go_loopw [5] (fun u wr=>∃i:Nat,i≤n∧u= a9 ((i:Int)-1)∧Hid (cX (nb 65536 (ds.take i)) (nb 65536 (es.take i))=cX x y)∧Ext w wr) (fun u wr=>(intOf u+1).toNat)
  case atStart=>exact⟨n,aX _,rfl,(show _=_ by rw [List.take_of_length_le (by rw [hlx.out];omega),List.take_of_length_le (by rw [hly.out];omega),hvx.out,hvy.out]),Ext.refl w⟩
  case round=>
   obtain⟨i,hi,rfl,hv,hext⟩:=hrel
   by_cases h0:0<i
   ·obtain⟨a,p,rfl,hxk,hxb,hc⟩:=(hx.ext hext).get (by omega) (i:=i-1) (by omega)
    obtain⟨b,q,rfl,hyk,hyb,hd⟩:=(hy.ext hext).get (by omega) (i:=i-1) (by omega)
    have hi':i-1+1=i:=by omega
    have hcast:((i-1:Nat):Int)=(i:Int)-1:=by omega
    have b1:(0:Int)≤(i:Int)-1:=by omega
    rcases Nat.lt_trichotomy p q with hlt | rfl | hgt
    ·go_wp2_with fail
     go_quiet (fail)
     go_wp2_with fail
     go_ret
     refine mA ?_ (by repeat (first | exact Ext.refl _ | assumption | apply Ext.drewN | apply Ext.drew | apply Ext.alloc))
     rw [←hv.out,←hi']
     exact wZ (FX (by omega) hx.wf (by rw [hlx.out];omega) (by rw [hly.out];omega) (by rw [hxk.out,hyk.out];exact hlt))
    ·go_wp2_with fail
     go_quiet (fail)
     go_wp2_with fail
     go_quiet (fail)
     go_wp2_with fail
     go_roundw
     case rel=>
      refine⟨i-1,by omega,by congr 1;omega,?_,(by repeat (first | exact Ext.refl _ | assumption | apply Ext.drewN | apply Ext.drew | apply Ext.alloc))⟩
      show _=_
      rw [←hv.out,←VX (k:=i-1) (by rw [hlx.out];omega) (by rw [hly.out];omega) (by rw [hxk.out,hyk.out]),hi']
     case measure=>simp [intOf];omega
    ·go_wp2_with fail
     go_quiet (fail)
     go_wp2_with fail
     go_quiet (fail)
     go_wp2_with fail
     go_ret
     refine mA ?_ (by repeat (first | exact Ext.refl _ | assumption | apply Ext.drewN | apply Ext.drew | apply Ext.alloc))
     rw [←hv.out,←hi']
     exact x7 (FX (by omega) hy.wf (by rw [hly.out];omega) (by rw [hlx.out];omega) (by rw [hxk.out,hyk.out];exact hgt))
   ·go_wp2_with fail
    go_ret
    refine mA ?_ hext
    rw [←hv.out,show i=0 from by omega]
    simp [JF]
 ·have h1:((n:Int) != (n':Int))=true:=by simp;omega
  go_enter Tryz.func186,Tryz.ntmps186
  go_wp2_with fail
  go_ret
  exact mA (x7 (GB fZ (by rw [hlx.out,hly.out];exact hgt))) (Ext.refl w)
theorem nV (hw:Wf xs):(db 65536 (nv xs)).length≤4*xs.length:=by
 refine jI fZ ?_
 have:=iY hw
 rwa [pM,←Nat.pow_mul] at this
theorem PO (hx:Rd w A n cap xs)(hl:n≤274877906943):aQ aH 180 #[i9 A n cap] w (j2 w (nv xs)):=by
 go_enter Tryz.func180,Tryz.ntmps180
 go_wp2_with fail
 refine (oX hx hl).mono ?_
 rintro e w1 ⟨A1,n1,c1,rfl,hn1,hr1,_,hx1⟩
 have hb:n1≤1099511627775:=by have:=nV hx.wf;rw [hn1.out];rw [hx.len] at this;omega
 go_wp2_with fail
 refine (vH hr1 hb).mono ?_
 rintro e w2 ⟨A2,n2,c2,rfl,hn2,hr2,ho2,hx2⟩
 go_wp2_with fail
 go_ret
 rw [iO fZ] at hn2 hr2 ho2
 exact⟨A2,n2,c2,rfl,hn2,hr2,ho2.mono hx1.size,hx1.trans hx2⟩
theorem PP (hx:Rd w A n cap xs)(hl:n≤274877906943)(hy:Rd w B n' cap' ys)(hl':n'≤274877906943):aQ aH 128 #[i9 A n cap,i9 B n' cap'] w (rR (nv xs) (nv ys) w):=by
 go_enter Tryz.func128,Tryz.ntmps128
 go_wp2_with fail
 refine (oX hx hl).mono ?_
 rintro e w1 ⟨A1,n1,c1,rfl,hn1,hr1,_,hx1⟩
 have hb1:n1≤1099511627775:=by have:=nV hx.wf;rw [hn1.out];rw [hx.len] at this;omega
 go_wp2_with fail
 refine (oX (hy.ext hx1) hl').mono ?_
 rintro e w2 ⟨A2,n2,c2,rfl,hn2,hr2,_,hx2⟩
 have hb2:n2≤1099511627775:=by have:=nV hy.wf;rw [hn2.out];rw [hy.len] at this;omega
 go_wp2_with fail
 refine (F7 (hr1.ext hx2) (by omega) hr2 (by omega)).mono ?_
 rintro e w3 ⟨c,hc,hc1,hc2,rfl,hx3⟩
 go_wp2_with fail
 go_ret
 exact⟨c,hc,hc1,hc2,rfl,(hx1.trans hx2).trans hx3⟩
theorem zO (hx:Ri 65536 w A n cap ds)(hl:n≤1099511627776){i:Int}(h0:0≤i:=by omega)(hi:i≤4398046511104:=by omega):aQ aH 187 #[i9 A n cap,a9 i] w fun e w'=>∃x:Nat,Hid (x=ds.getD i.toNat 0)∧x≤65535∧e= .returned (a9 (x:Int))∧w=w':=by
 obtain⟨k,rfl⟩:=Int.eq_ofNat_of_zero_le h0
 rw [gX]
 have hlx:=Lib.hid hx.len
 by_cases hk:k<n
 ·obtain⟨a,x,rfl,hxk,hxb,hc⟩:=hx.get (by omega) (i:=k) hk
  go_enter Tryz.func187,Tryz.ntmps187
  go_wp2_with fail
  go_ret
  exact⟨x,hxk.out.symm,by omega,rfl,rfl⟩
 ·go_enter Tryz.func187,Tryz.ntmps187
  go_wp2_with fail
  go_ret
  refine⟨0,?_,by omega,rfl,rfl⟩
  show _=_
  rw [bE,gW (by rw [hlx.out];omega)];rfl
theorem FY (b:Nat)(xs:List Nat)(k:Nat):nb b (xs.take (k+1))=nb b (xs.take k)+b^k*xs.getD k 0:=by
 by_cases h:k<xs.length
 ·exact hJ b xs k h
 ·rw [List.take_of_length_le (by omega),List.take_of_length_le (by omega),bE,gW (by omega)];simp
theorem WU (hli:i<l.length)(h:nb b (l.take i)+b^i*c=nb b (xs.take i)+nb b (ys.take i))(hx:x=xs.getD i 0)(hy:y=ys.getD i 0)(hs:s+b*d=x+y+c):nb b ((l.set i s).take (i+1))+b^(i+1)*d=nb b (xs.take (i+1))+nb b (ys.take (i+1)):=by
 have f:(l.set i s).getD i 0=s:=by simp [bE,hli]
 have e:(l.set i s).take i=l.take i:=by rw [List.take_set_of_le (aX i)]
 rw [hJ b _ i (by rw [List.length_set];exact hli),f,e,FY b xs i,FY b ys i,←hx,←hy,dJ,bY]
 have o:b^i*(s+b*d)=b^i*(x+y+c):=by rw [hs]
 simp only [cZ] at o
 omega
theorem PQ (hx:Rd w A n cap xs)(hl:n≤137438953471)(hy:Rd w B n' cap' ys)(hl':n'≤137438953471):aQ aH 129 #[i9 A n cap,i9 B n' cap'] w (j2 w (nv xs+nv ys)):=by
 go_enter Tryz.func129,Tryz.ntmps129
 go_wp2_with fail
 refine (oX hx (by omega)).mono ?_
 rintro e w1 ⟨A1,p,c1,rfl,hp,hr1,_,hx1⟩
 have hb1:p≤549755813888:=by have:=nV hx.wf;rw [hp.out];rw [hx.len] at this;omega
 go_wp2_with fail
 refine (oX (hy.ext hx1) (by omega)).mono ?_
 rintro e w2 ⟨A2,q,c2,rfl,hq,hr2,_,hx2⟩
 have hb2:q≤549755813888:=by have:=nV hy.wf;rw [hq.out];rw [hy.len] at this;omega
 have hr1':=hr1.ext hx2
 have hx12:=hx1.trans hx2
 clear hr1 hx1 hx2
 obtain⟨ds,hds⟩:∃ds,ds=db 65536 (nv xs):=⟨_,rfl⟩
 obtain⟨es,hes⟩:∃es,es=db 65536 (nv ys):=⟨_,rfl⟩
 have hvx:=Lib.hid (show nb 65536 ds=nv xs by rw [hds,iO fZ])
 have hvy:=Lib.hid (show nb 65536 es=nv ys by rw [hes,iO fZ])
 have hdl:=Lib.hid hr1'.len
 have hel:=Lib.hid hr2.len
 rw [←hds] at hr1' hdl
 rw [←hes] at hr2 hel
 clear hds hes hp hq hx hy
 go_upto_if 21 with (fail)
 go_cut [7] (fun u wc=>∃m:Nat,u= a9 (m:Int)∧p≤m∧q≤m∧m≤549755813888∧w2=wc)
 case first=>
  by_cases hlt:p<q
  ·go_wp2_with fail
   go_meet
   case rel=>exact⟨q,rfl,by omega,by omega,hb2,rfl⟩
  ·go_wp2_with fail
   go_meet
   case rel=>exact⟨p,rfl,by omega,by omega,hb1,rfl⟩
 case rest=>
  obtain⟨m,rfl,hpm,hqm,hmb,rfl⟩:=hcut
  have hmk:=kF (P:=aH) Tryz.underlying140 pE G (by decide) ((m:Int)+1) (by omega) (by omega)
  have et:((m:Int)+1).toNat=m+1:=by omega
  rw [et] at hmk
  clear et
  go_wp2_with fail
  clear hmk
  obtain⟨g,hg⟩:∃g,w2.heap.size=g:=⟨_,rfl⟩
  rw [hg]
  obtain⟨wa,hwa⟩:∃wa,w2.alloc (.cells (zc (.int .i64 0) (m+1)) 3)=wa:=⟨_,rfl⟩
  rw [hwa]
  have hbk:Bk wa g 3 ((cJ (m+1) 0).map I6):=by
   rw [←hwa,←hg,←vE];exact Bk.new' _ _ _
  have hea:Ext w2 wa:=by rw [←hwa];exact (Ext.refl w2).alloc _
  have hgs:w.heap.size≤g:=by rw [←hg];exact hx12.size
  have hgc:w2.heap.size≤g:=by rw [hg];exact aX _
  clear hg hwa
  go_loopw [10,9] (fun u v wr=>∃(i c:Nat) (l:List Nat),i≤m∧c≤1∧u= a9 (i:Int)∧v= a9 (c:Int)∧Hid (l.length=m+1)∧Wfb 65536 l∧Bk wr g 3 (l.map I6)∧
   Hid (nb 65536 (l.take i)+65536^i*c=nb 65536 (ds.take i)+nb 65536 (es.take i))∧Ext w2 wr) (fun u v wr=>m-(intOf u).toNat)
  case atStart=>exact⟨0,0,_,bJ _,bJ _,rfl,rfl,List.length_replicate,pK (by omega) _,hbk,by simp [Hid,nb],hea⟩
  case round=>
   obtain⟨i,c,l,hi,hc,rfl,rfl,hll,hwl,hb,hv,hr⟩:=hrel
   clear hbk hea
   by_cases him:i<m
   ·obtain⟨o,ho,_,hco⟩:=hb.digit (by omega) hwl (i:=i) (by rw [hll.out];omega)
    have hfr:=hb.frozen i
    go_wp2_with fail
    refine (zO (hr1'.ext hr) (by omega) (i:=(i:Int))).mono ?_
    rintro e w' ⟨x,hx,hxb,rfl,rfl⟩
    go_wp2_with fail
    refine (zO (hr2.ext hr) (by omega) (i:=(i:Int))).mono ?_
    rintro e w' ⟨y,hy,hyb,rfl,rfl⟩
    rw [gX] at hx hy
    go_wp2_with fail
    go_roundw
    case rel=>
     have ec:((x:Int)+(y:Int)+(c:Int))%65536=(((x+y+c)%65536:Nat):Int):=by omega
     refine⟨i+1,(x+y+c)/65536,l.set i ((x+y+c)%65536),by omega,by omega,by go_num,fP,by show _=_;rw [List.length_set];exact hll.out,iF hwl i,?_,
      WU (by rw [hll.out];omega) hv.out hx.out hy.out (jF _ _),hr.setCell hgc _⟩
     rw [←oZ,ec];exact hb.set i _
    case measure=>simp [intOf];omega
   ·obtain rfl:i=m:=by omega
    obtain⟨o,ho,_,hco⟩:=hb.digit (by omega) hwl (i:=i) (by rw [hll.out];omega)
    have hfr:=hb.frozen i
    have hb2:=hb.set i (a9 (c:Int))
    rw [oZ] at hb2
    have hll2:Hid ((l.set i c).length=i+1):=by show _=_;rw [List.length_set];exact hll.out
    have hwl2:Wfb 65536 (l.set i c):=iF hwl i
    have hr3:Ri 65536 (wr.setCell ⟨g,i,none⟩ (a9 (c:Int))) (some ⟨g,0,none⟩) (i+1) (i+1) (l.set i c):=by
     have:=hb2.ri hwl2 (o:=0) (n:=i+1) (cap:=i+1) (aX _) (by rw [hll2.out];omega) (by rw [eA];omega)
     rwa [gQ,List.take_of_length_le (by rw [hll2.out];omega)] at this
    have hval:Hid (nb 65536 (l.set i c)=nv xs+nv ys):=by
     show _=_
     have e1:(l.set i c).getD i 0=c:=by
      have:=hll.out
      simp [bE,this]
     have e2:(l.set i c).take i=l.take i:=by rw [List.take_set_of_le (aX i)]
     have e3:=hJ 65536 (l.set i c) i (by rw [hll2.out];omega)
     rw [e1,e2,List.take_of_length_le (by rw [hll2.out];omega),hv.out,List.take_of_length_le (by rw [hdl.out];omega),List.take_of_length_le (by rw [hel.out];omega)] at e3
     rw [e3,hvx.out,hvy.out]
    go_wp2_with fail
    refine (vH hr3 (by omega)).mono ?_
    rintro e w3 ⟨A3,n3,c3,rfl,hn3,hr4,ho4,hx3⟩
    go_wp2_with fail
    go_ret
    rw [hval.out] at hn3 hr4 ho4
    exact⟨A3,n3,c3,rfl,hn3,hr4,ho4.mono (by have:=hx12.size;have:=hr.size;simp;omega),((hx12.trans hr).setCell hgs _).trans hx3⟩
theorem VM {q:Nat}(hl:n<l.length)(h:nb 65536 (l.take n)+65536^n*q=x):nb 65536 ((l.set n (q%65536)).take (n+1))+65536^(n+1)*(q/65536)=x:=by
 rw [nR 65536 hl,dJ,bY,j5,←cZ,jF]
 exact h
theorem F5 (hx:Rd w A n cap xs)(hl:n≤274877906943):aQ aH 188 #[i9 A n cap] w (CA w (nv xs)):=by
 have hlx:=Lib.hid hx.len
 have hmk:=kF (P:=aH) Tryz.underlying140 pE G (by decide) (4*(n:Int)) (by omega) (by omega)
 have et:(4*(n:Int)).toNat=4*n:=by omega
 rw [et] at hmk
 clear et
 go_enter Tryz.func188,Tryz.ntmps188
 go_wp2_with fail
 clear hmk
 obtain⟨g,hg⟩:∃g,w.heap.size=g:=⟨_,rfl⟩
 rw [hg]
 obtain⟨wa,hwa⟩:∃wa,w.alloc (.cells (zc (.int .i64 0) (4*n)) 3)=wa:=⟨_,rfl⟩
 rw [hwa]
 have hbk:Bk wa g 3 ((cJ (4*n) 0).map I6):=by
  rw [←hwa,←hg,←vE];exact Bk.new' _ _ _
 have hea:Ext w wa:=by rw [←hwa];exact (Ext.refl w).alloc _
 have hgs:w.heap.size≤g:=by rw [hg];exact aX _
 clear hg hwa
 go_loopw [4] (fun u wr=>∃(i:Nat) (l:List Nat),i≤n∧u= a9 (i:Int)∧Bk wr g 3 (l.map I6)∧Wfb 65536 l∧Hid (l.length=4*n)∧Hid (nb 65536 (l.take (4*i))=nv (xs.take i))∧Ext w wr) (fun u wr=>n-(intOf u).toNat)
 case atStart=>exact⟨0,_,bJ _,rfl,hbk,pK (by omega) _,List.length_replicate,rfl,hea⟩
 case round=>
  obtain⟨i,l,hi,rfl,hb,hw,hll,hv,hr⟩:=hrel
  clear hbk hea
  by_cases him:i<n
  ·obtain⟨a,x,rfl,hxk,hxb,hcx⟩:=(hx.ext hr).get (i:=i) (by omega)
   go_wp2_with fail
   obtain⟨wo,rfl⟩:∃wo:a0,wo=wr:=⟨_,rfl⟩
   go_loopw [6,5] (fun u y wr=>∃(k:Nat) (l:List Nat) (q:Nat),k≤4∧u= a9 (k:Int)∧y= i5 (q:Int)∧q≤18446744073709551615∧Bk wr g 3 (l.map I6)∧Wfb 65536 l∧
    Hid (l.length=4*n)∧Hid (nb 65536 (l.take (4*i+k))+65536^(4*i+k)*q=nv (xs.take (i+1)))∧Hid (q*65536^k<WB)∧Ext w wr) (fun u y wr=>4-(intOf u).toNat)
   case atStart=>
    refine⟨0,l,x,bJ _,rfl,rfl,hxb,hb,hw,hll,?_,?_,hr⟩
    ·show _=_
     rw [show 4*i+0=4*i from rfl,hv.out,eL xs i (by rw [hlx.out];omega),hxk.out,pM,←Nat.pow_mul]
    ·show _<_
     rw [cC];omega
   case round=>
    obtain⟨k,l2,q,hk,rfl,rfl,hqb,hb2,hw2,hl2,hev,hq,hr2⟩:=hrel
    clear hb hw hll hv
    by_cases hk4:k<4
    ·obtain⟨o,ho,_,hco⟩:=hb2.digit (by omega) hw2 (i:=4*i+k) (by rw [hl2.out];omega)
     have hfr:=hb2.frozen (4*i+k)
     go_wp2_with fail
     go_roundw
     case rel=>
      refine⟨k+1,l2.set (4*i+k) (q%65536),q/65536,by omega,by go_num,by go_num,by omega,?_,iF hw2 _ (hx:=(fV q (by omega))),by show _=_;rw [List.length_set];exact hl2.out,VM (n:=4*i+k) (by rw [hl2.out];omega) hev.out,?_,hr2.setCell hgs _⟩
      ·have e:((q:Int)%65536)=((q%65536:Nat):Int):=by omega
       rw [←oZ,e];exact hb2.set _ _
      ·show _<_
       have h2:q/65536*65536≤q:=Nat.div_mul_le_self q 65536
       calc q/65536*65536^(k+1)=(q/65536*65536)*65536^k:=by rw [dJ,cY (65536^k),bY]
        _≤q*65536^k:=eC _ h2
        _<WB:=hq.out
     case measure=>simp [intOf];omega
    ·obtain rfl:k=4:=by omega
     have hq0:q=0:=by
      have h:=hq.out
      rw [cC] at h
      omega
     go_wp2_with fail
     go_roundw
     case rel=>
      refine⟨i+1,l2,by omega,by go_num,hb2,hw2,hl2.out,?_,hr2⟩
      show _=_
      have h:=hev.out
      rw [hq0,gJ,eS] at h
      exact h
     case measure=>simp [intOf];omega
  ·obtain rfl:i=n:=by omega
   have hval:Hid (nb 65536 l=nv xs):=by
    show _=_
    have h:=hv.out
    rwa [List.take_of_length_le (by rw [hll.out];omega),List.take_of_length_le (by rw [hlx.out];omega)] at h
   clear hv
   go_wp2_with fail
   go_loop [7] (fun u=>∃k:Nat,k≤4*i∧u= a9 (k:Int)∧Hid (nb 65536 (l.take k)=nb 65536 l)) (fun u=>(intOf u).toNat)
   case atStart=>exact⟨4*i,aX _,by go_num,(show _=_ by rw [List.take_of_length_le (by rw [hll.out];omega)])⟩
   case round=>
    obtain⟨k,hk,rfl,hv⟩:=hrel
    have fin:k=0∨l.getD (k-1) 0≠0→CA w (nv xs) (.returned (i9 (some ⟨g,0,none⟩) k (4*i))) wr:=by
     intro h
     have e:=wV fZ (k:=k) hw (by rw [hll.out];exact hk) hv.out h
     rw [hval.out] at e
     have ho:Own wr w.heap.size 3 1 (some ⟨g,0,none⟩) k (4*i) ((db 65536 (nv xs)).map I6):=
      Own.mk_ hgs hb hk (by rw [eA];omega) (by rw [List.length_map,hll.out,dK]) (by rw [dK,←jN,e])
     refine⟨_,_,_,rfl,?_,⟨ho.rv,kX fZ _⟩,ho,hr⟩
     show _=_
     rw [e,dE,hll.out];omega
    have FIN:=Lib.hid fin
    clear fin
    by_cases h0:0<k
    ·obtain⟨x,hxk,hxb,hc⟩:=hb.digit (by omega) hw (i:=k-1) (by rw [hll.out];omega)
     by_cases hz:x=0
     ·subst hz
      go_wp2_with fail
      go_round
      case rel=>
       refine⟨k-1,by omega,fP,?_⟩
       show _=_
       rw [←hv.out,←vL 65536 l (k-1) (by rw [hll.out];omega) hxk.out,iH h0]
      case measure=>simp [intOf];omega
     ·have hzb:((x:Int)==0)=false:=by simp;omega
      go_wp2_with fail
      go_ret
      exact FIN.out (bT (by rw [hxk.out];exact hz))
    ·go_wp2_with fail
     go_ret
     exact FIN.out (cD (by omega))
theorem PL (hx:Ri 65536 w A n cap ds)(hl:n≤1099511627775):aQ aH 189 #[i9 A n cap] w (j2 w (nb 65536 ds)):=by
 have hlx:=Lib.hid hx.len
 obtain⟨m,hm⟩:∃m,m=(n+3)/4:=⟨_,rfl⟩
 have hm1:n≤4*m:=by omega
 have hm2:4*m<n+4:=by omega
 have hmk:=kF (P:=aH) Tryz.underlying22 iB G (by decide) (((n:Int)+3)/4) (by omega) (by omega)
 have et:(((n:Int)+3)/4).toNat=m:=by omega
 rw [et] at hmk
 clear et hm
 go_enter Tryz.func189,Tryz.ntmps189
 go_wp2_with fail
 clear hmk
 obtain⟨g,hg⟩:∃g,w.heap.size=g:=⟨_,rfl⟩
 rw [hg]
 obtain⟨wa,hwa⟩:∃wa,w.alloc (.cells (zc (.int .u64 0) m) 65)=wa:=⟨_,rfl⟩
 rw [hwa]
 have hbk:Bk wa g 65 ((cJ m 0).map bC):=by
  rw [←hwa,←hg,←jY];exact Bk.new' _ _ _
 have hea:Ext w wa:=by rw [←hwa];exact (Ext.refl w).alloc _
 have hgs:w.heap.size≤g:=by rw [hg];exact aX _
 clear hg hwa
 go_loopw [4] (fun u wr=>∃(i:Nat) (l:List Nat),i≤n∧u= a9 ((i:Int)-1)∧Bk wr g 65 (l.map bC)∧Hid (l.length=m)∧Hid (∀t,t<m→l.getD t 0=kD ds i t)∧Ext w wr) (fun u wr=>(intOf u+1).toNat)
 case atStart=>
  refine⟨n,_,aX _,rfl,hbk,List.length_replicate,?_,hea⟩
  intro t ht
  have e1:(cJ m 0).getD t 0=0:=by simp [bE,ht]
  unfold kD
  rw [e1,List.drop_eq_nil_of_le (by rw [hlx.out];omega)];simp [nb]
 case round=>
  obtain⟨i,l,hi,rfl,hb,hll,hv,hr⟩:=hrel
  clear hbk hea
  have hwl:Wf l:=by
   intro x hx'
   obtain⟨t,ht,rfl⟩:=List.getElem_of_mem hx'
   have:=hv.out t (by rw [←hll.out];exact ht)
   rw [bE,bR ht,lJ] at this
   rw [this];exact CS hx.wf _ _
  by_cases h0:0<i
  ·obtain⟨j,rfl⟩:∃j,i=j+1:=⟨i-1,by omega⟩
   obtain⟨a,d,rfl,hdk,hdb,hcd⟩:=(hx.ext hr).get (by omega) (i:=j) (by omega)
   obtain⟨x,hxk,hxb,hcx⟩:=hb.word hwl (i:=j/4) (by rw [hll.out];omega)
   have hfr:=hb.frozen (j/4)
   have hval:Hid (d+65536*x=kD ds j (j/4)):=by
    show _=_
    rw [L3,hdk.out,←hv.out (j/4) (by omega),hxk.out]
   have hbd:d+65536*x≤18446744073709551615:=by
    rw [hval.out]
    have:=CS hx.wf j (j/4)
    rw [cC] at this;omega
   have hj:((j+1:Nat):Int)-1=(j:Int):=by omega
   rw [hj]
   clear hj h0
   have c1:(j:Int)/4<(m:Int):=by omega
   have c2:(0:Int)≤(j:Int)/4:=by omega
   go_wp2_with fail
   go_region
   go_wp2_with fail
   go_roundw
   case rel=>
    have ev:(x:Int)*65536+(d:Int)=((d+65536*x:Nat):Int):=by omega
    refine⟨j,l.set (j/4) (d+65536*x),by omega,fP,?_,by show _=_;rw [List.length_set];exact hll.out,?_,(hr.setCell hgs _).drew⟩
    ·rw [←dP,ev];exact (hb.set _ _).drew
    ·intro t ht
     by_cases htj:t=j/4
     ·subst htj
      rw [rH (by rw [hll.out];omega),hval.out]
     ·rw [getD_set_ne (fun e=>htj e.symm),hv.out t ht,L4 htj]
   case measure=>simp [intOf]
  ·obtain rfl:i=0:=by omega
   have hval:Hid (nv l=nb 65536 ds):=L5 (fun t ht=>hv.out t (by rw [←hll.out];exact ht)) (by rw [hll.out,hlx.out];exact hm1) (by rw [hll.out,hlx.out];exact hm2)
   clear hv
   go_wp2_with fail
   go_loop [5] (fun u=>∃k:Nat,k≤m∧u= a9 (k:Int)∧Hid (nv (l.take k)=nv l)) (fun u=>(intOf u).toNat)
   case atStart=>exact⟨m,aX _,rfl,(show _=_ by rw [List.take_of_length_le (by rw [hll.out];omega)])⟩
   case round=>
    obtain⟨k,hk,rfl,hv⟩:=hrel
    have fin:k=0∨l.getD (k-1) 0≠0→j2 w (nb 65536 ds) (.returned (i9 (some ⟨g,0,none⟩) k m)) wr:=by
     intro h
     have e:=sB (k:=k) hwl (by rw [hll.out];exact hk) hv.out h
     rw [←hval.out]
     exact rO (ys:=l) hgs hb hll.out hk (by rw [eA];omega) e.symm hr
    have FIN:=Lib.hid fin
    clear fin
    by_cases h0:0<k
    ·obtain⟨x,hxk,hxb,hc⟩:=hb.word hwl (i:=k-1) (by rw [hll.out];omega)
     by_cases hz:x=0
     ·subst hz
      go_wp2_with fail
      go_round
      case rel=>
       refine⟨k-1,by omega,fP,?_⟩
       show _=_
       rw [←hv.out,←oY l (k-1) (by rw [hll.out];omega) hxk.out,iH h0]
      case measure=>simp [intOf];omega
     ·have hzb:((x:Int)==0)=false:=by simp;omega
      go_wp2_with fail
      go_ret
      exact FIN.out (bT (by rw [hxk.out];exact hz))
    ·go_wp2_with fail
     go_ret
     exact FIN.out (cD (by omega))
theorem QZ {o P:Nat}(hk:k=i+j)(hkm:k<m)(hml:m≤l.length)(h:nb b (l.take m)+b^k*c=P+x*(b^i*nb b (ys.take j)))(ho:l.getD k 0=o)(hj:j<ys.length)(hy:ys.getD j 0=y)(hs:s+b*d=o+x*y+c):nb b ((l.set k s).take m)+b^(k+1)*d=P+x*(b^i*nb b (ys.take (j+1))):=by
 have f:=sR b (l:=l.take m) (k:=k) (by rw [dE];omega) s
 rw [wD hkm,ho] at f
 rw [List.take_set,hJ b ys j hj,hy,cZ (b^i),cZ x,←j5,←h,←bY (b^i),←dX,←hk,dJ,bY (b^k)]
 have e:b^k*(s+b*d)=b^k*(o+x*y+c):=by rw [hs]
 simp only [cZ] at e
 have p:b^k*(x*y)=x*(b^k*y):=by rw [←bY,cY (b^k) x,bY]
 rw [p] at e
 omega
theorem R2 {B:Nat}(hx:x≤B)(hy:y≤B):((x:Int)*(y:Int))≤((B*B:Nat):Int)∧0≤((x:Int)*(y:Int))∧((x:Int)*(y:Int))=((x*y:Nat):Int):=by
 have h:x*y≤B*B:=j3 hx hy
 rw [←Int.natCast_mul]
 omega
theorem PM (hx:Rd w A n cap xs)(hl:n≤68719476735)(hy:Rd w B n' cap' ys)(hl':n'≤68719476735):aQ aH 131 #[i9 A n cap,i9 B n' cap'] w (j2 w (nv xs*nv ys)):=by
 go_enter Tryz.func131,Tryz.ntmps131
 go_wp2_with fail
 refine (F5 hx (by omega)).mono ?_
 rintro e w1 ⟨A1,p,c1,rfl,hp,hr1,_,hx1⟩
 have hbp:p≤274877906944:=by have:=nV hx.wf;rw [hp.out];rw [hx.len] at this;omega
 go_wp2_with fail
 refine (F5 (hy.ext hx1) (by omega)).mono ?_
 rintro e w2 ⟨A2,q,c2,rfl,hq,hr2,_,hx2⟩
 have hbq:q≤274877906944:=by have:=nV hy.wf;rw [hq.out];rw [hy.len] at this;omega
 have hr1':=hr1.ext hx2
 have hx12:=hx1.trans hx2
 clear hr1 hx1 hx2
 obtain⟨ds,hds⟩:∃ds,ds=db 65536 (nv xs):=⟨_,rfl⟩
 obtain⟨es,hes⟩:∃es,es=db 65536 (nv ys):=⟨_,rfl⟩
 have hvx:=Lib.hid (show nb 65536 ds=nv xs by rw [hds,iO fZ])
 have hvy:=Lib.hid (show nb 65536 es=nv ys by rw [hes,iO fZ])
 have hdl:=Lib.hid hr1'.len
 have hel:=Lib.hid hr2.len
 rw [←hds] at hr1' hdl
 rw [←hes] at hr2 hel
 clear hds hes hp hq hx hy
 have hmk:=kF (P:=aH) Tryz.underlying140 pE G (by decide) ((p:Int)+(q:Int)) (by omega) (by omega)
 have et:((p:Int)+(q:Int)).toNat=p+q:=by omega
 rw [et] at hmk
 clear et
 go_wp2_with fail
 clear hmk
 obtain⟨g,hg⟩:∃g,w2.heap.size=g:=⟨_,rfl⟩
 rw [hg]
 obtain⟨wa,hwa⟩:∃wa,w2.alloc (.cells (zc (.int .i64 0) (p+q)) 3)=wa:=⟨_,rfl⟩
 rw [hwa]
 have hbk:Bk wa g 3 ((cJ (p+q) 0).map I6):=by
  rw [←hwa,←hg,←vE];exact Bk.new' _ _ _
 have hea:Ext w2 wa:=by rw [←hwa];exact (Ext.refl w2).alloc _
 have hgs:w.heap.size≤g:=by rw [←hg];exact hx12.size
 have hgc:w2.heap.size≤g:=by rw [hg];exact aX _
 clear hg hwa
 go_loopw [8] (fun u wr=>∃(i:Nat) (l:List Nat),i≤p∧u= a9 (i:Int)∧Hid (l.length=p+q)∧Wfb 65536 l∧Bk wr g 3 (l.map I6)∧
  Hid (nb 65536 (l.take (i+q))=nb 65536 (ds.take i)*nb 65536 es)∧Ext w2 wr) (fun u wr=>p-(intOf u).toNat)
 case atStart=>
  refine⟨0,_,bJ _,rfl,List.length_replicate,pK (by omega) _,hbk,?_,hea⟩
  show _=_
  rw [List.take_replicate,vK];simp [nb]
 case round=>
  obtain⟨i,l,hi,rfl,hll,hwl,hb,hv,hr⟩:=hrel
  clear hbk hea
  by_cases hip:i<p
  ·obtain⟨a,x,rfl,hxk,hxb,hcx⟩:=(hr1'.ext hr).get (by omega) (i:=i) (by omega)
   go_wp2_with fail
   obtain⟨wo,rfl⟩:∃wo:a0,wo=wr:=⟨_,rfl⟩
   go_loopw [10,9] (fun u v wr=>∃(j c:Nat) (l:List Nat),j≤q∧c≤65535∧u= a9 (j:Int)∧v= a9 (c:Int)∧Hid (l.length=p+q)∧Wfb 65536 l∧Bk wr g 3 (l.map I6)∧
    Hid (nb 65536 (l.take (i+q))+65536^(i+j)*c=nb 65536 (ds.take i)*nb 65536 es+x*(65536^i*nb 65536 (es.take j)))∧Ext w2 wr) (fun u v wr=>q-(intOf u).toNat)
   case atStart=>exact⟨0,0,l,bJ _,bJ _,rfl,rfl,hll.out,hwl,hb,(show _=_ by rw [hv.out];simp [nb]),hr⟩
   case round=>
    obtain⟨j,c,l2,hj,hc,rfl,rfl,hl2,hw2,hb2,hv2,hr2'⟩:=hrel
    clear hll hwl hb hv
    by_cases hjq:j<q
    ·have hcx2:=(hr1'.ext hr2').get (by omega) (i:=i) (by omega)
     obtain⟨a',x',ha',hxk',_,hcx'⟩:=hcx2
     cases ha'
     obtain rfl:x'=x:=by rw [←hxk'.out,hxk.out]
     obtain⟨b,y,rfl,hyk,hyb,hcy⟩:=(hr2.ext hr2').get (by omega) (i:=j) (by omega)
     obtain⟨o,hok,aF,hco⟩:=hb2.digit (by omega) hw2 (i:=i+j) (by rw [hl2.out];omega)
     have hfr:=hb2.frozen (i+j)
     obtain⟨m1,m2,m3⟩:=R2 (B:=65535) (x:=x') (y:=y) (by omega) (by omega)
     have M3:=Lib.hid m3
     clear m3 hcx hxk'
     have m1':(x':Int)*(y:Int)≤4294836225:=by simpa using m1
     clear m1
     go_wp2_with fail
     go_quiet (fail)
     go_wp2_with fail
     go_roundw
     case rel=>
      have hs:o+x'*y+c≤4294967295:=by
       have h:=M3.out
       have:x'*y≤4294836225:=by omega
       omega
      have ev:((o:Int)+(x':Int)*(y:Int)+(c:Int))=((o+x'*y+c:Nat):Int):=by rw [M3.out];omega
      refine⟨j+1,(o+x'*y+c)/65536,l2.set (i+j) ((o+x'*y+c)%65536),by omega,by omega,by go_num,by rw [ev];exact fP,by show _=_;rw [List.length_set];exact hl2.out,iF hw2 _ (hx:=(fV _ (by omega))),?_,
       QZ (k:=i+j) (m:=i+q) G (by omega) (by rw [hl2.out];omega) hv2.out hok.out (by rw [hel.out];omega) hyk.out (jF _ _),(by first | exact (hr2'.drewN _).setCell hgc _ | exact (hr2'.setCell hgc _).drewN _)⟩
      have ev2:((o:Int)+(x':Int)*(y:Int)+(c:Int))%65536=(((o+x'*y+c)%65536:Nat):Int):=by rw [ev];omega
      rw [←oZ,←ev2];exact (hb2.drewN _).set _ _
     case measure=>simp [intOf];omega
    ·obtain rfl:j=q:=by omega
     obtain⟨o,hok,aF,hco⟩:=hb2.digit (by omega) hw2 (i:=i+j) (by rw [hl2.out];omega)
     have hfr:=hb2.frozen (i+j)
     go_wp2_with fail
     go_roundw
     case rel=>
      refine⟨i+1,l2.set (i+j) c,by omega,by go_num,by show _=_;rw [List.length_set];exact hl2.out,iF hw2 _,by rw [←oZ];exact hb2.set _ _,?_,hr2'.setCell hgc _⟩
      show _=_
      rw [show i+1+j=i+j+1 from by omega,nR 65536 (by rw [hl2.out];omega),hv2.out,List.take_of_length_le (l:=es) (i:=j) (by rw [hel.out];omega),hJ 65536 ds i (by rw [hdl.out];omega),hxk.out,dO,←bY,cY x]
     case measure=>simp [intOf];omega
  ·obtain rfl:i=p:=by omega
   have hr3:Ri 65536 wr (some ⟨g,0,none⟩) (i+q) (i+q) l:=by
    have:=hb.ri hwl (o:=0) (n:=i+q) (cap:=i+q) (aX _) (by rw [hll.out];omega) (by rw [eA];omega)
    rwa [gQ,List.take_of_length_le (by rw [hll.out];omega)] at this
   have hval:Hid (nb 65536 l=nv xs*nv ys):=by
    show _=_
    have h:=hv.out
    rwa [List.take_of_length_le (by rw [hll.out];omega),List.take_of_length_le (by rw [hdl.out];omega),hvx.out,hvy.out] at h
   go_wp2_with fail
   refine (PL hr3 (by omega)).mono ?_
   rintro e w3 ⟨A3,n3,c3,rfl,hn3,hr4,ho4,hx3⟩
   go_wp2_with fail
   go_ret
   rw [hval.out] at hn3 hr4 ho4
   exact⟨A3,n3,c3,rfl,hn3,hr4,ho4.mono (hx12.trans hr).size,(hx12.trans hr).trans hx3⟩
theorem qC (w:a0):(sizeOf 3).run aH w= .ok 1 w:=by kernel_rfl
theorem JU (w:a0):(isAgg 3).run aH w= .ok false w:=by kernel_rfl
theorem sC:Tryz.prog.underlying 140=some (.slice 3):=Tryz.underlying140
theorem Ri.at (hb:0<b)(h:Ri b w A n c xs)(hi:i<n):∃p,A.map (·.add (i*1))=some p∧w.cell? p=some (a9 ((xs.getD i 0:Nat):Int))∧xs.getD i 0<b:=by
 obtain⟨a,x,rfl,f,e,o⟩:=h.get hb hi
 refine⟨a.add i,by rw [dK];rfl,?_,by rw [f.out];exact e⟩
 rw [f.out];exact o
theorem Ri.updL (h:Ri b w A n c xs)(e:Upd g w w')(hne:0<c→∀a,A=some a→a.block≠g):Ri b w' A n c xs:=
 ⟨⟨h.rv.len,h.rv.le,h.rv.max,fun i hi=>by
  obtain⟨a,f,o⟩:=h.rv.get i hi
  exact⟨a,f,e.cell o (by rw [rK];exact hne (by have:=h.rv.le;omega) a f)⟩,fun a f o=>cS (h.rv.blk a f o) e.size⟩,h.wf⟩
def SD (m:Nat)(v:aD)(w:a0):Prop:=∃A k c,v= i9 A k c∧Ri 65536 w A k c (db 65536 m)
theorem HU (e:Ending)(w':a0)(h:rR x y w e w'):Gv w (Is (a9 (cX x y))) e w':=by
 obtain⟨c,h1,_,_,rfl,h2⟩:=h
 exact⟨_,rfl,(show d8 .i64 c=_ by rw [h1.out]),h2⟩
theorem GO (h:Rd w A n c xs):(db 65536 (nv xs)).length≤4*n:=by
 have:=nV h.wf
 rwa [h.len] at this
theorem IG (hx:Rd w A n c xs)(hl:n≤274877906943):aQ aH 177 #[i9 A n c] w (Gv w (SD (nv xs))):=
 (oX hx hl).mono fun e w' h=>by
  obtain⟨A,n,c,rfl,_,h2,_,f⟩:=h
  exact⟨_,rfl,⟨A,n,c,rfl,h2⟩,f⟩
theorem U3 (hb:b≤w.heap.size)(hx:Ri 65536 w A n c ds)(hl:n≤1099511627775):aQ aH 179 #[i9 A n c] w (Gv w (WR b (nb 65536 ds))):=(vH hx hl).mono (gw hb)
theorem U1 (hx:Ri 65536 w A n c (db 65536 x))(hl:n≤1099511627776)(hy:Ri 65536 w B m d (db 65536 y))(hl':m≤1099511627776):aQ aH 186 #[i9 A n c,i9 B m d] w (Gv w (Is (a9 (cX x y)))):=(F7 hx hl hy hl').mono HU
theorem IF (hx:Ri 65536 w A n c ds)(hl:n≤1099511627776)(hi:i≤4398046511104):aQ aH 187 #[i9 A n c,a9 (i:Int)] w (Gv w (Is (a9 ((ds.getD i 0:Nat):Int)))):=
 (zO hx hl (i:=(i:Int))).mono fun e w' h=>by
  obtain⟨x,h1,_,rfl,rfl⟩:=h
  have h2:=h1.out
  rw [gX] at h2
  exact⟨_,rfl,(show d8 .i64 (x:Int)=_ by rw [h2]),Ext.refl _⟩
theorem DT {t t':Nat}(hl:i<l.length)(hd:i<ds.length)(h:nb 65536 (l.take i)+nb 65536 (es.take i)=nb 65536 (ds.take i)+65536^i*t)(hs:d+es.getD i 0+t=ds.getD i 0+65536*t'):nb 65536 ((l.set i d).take (i+1))+nb 65536 (es.take (i+1))=nb 65536 (ds.take (i+1))+65536^(i+1)*t':=by
 have he:nb 65536 (es.take (i+1))=nb 65536 (es.take i)+65536^i*es.getD i 0:=by
  by_cases h:i<es.length
  ·exact hJ _ _ _ h
  ·rw [List.take_of_length_le (by omega),List.take_of_length_le (by omega),bE,gW (by omega)]
   rfl
 rw [nR 65536 hl,he,hJ 65536 ds i hd,dJ,bY]
 have e:65536^i*(d+es.getD i 0+t)=65536^i*(ds.getD i 0+65536*t'):=by rw [hs]
 simp only [cZ] at e
 omega
theorem MM {t:Nat}(hds:ds=db 65536 x)(hes:es=db 65536 y)(hxy:y≤x)(hn:ds.length=n)(hl:l.length=n)(hw:Wfb 65536 l)(h:nb 65536 (l.take n)+nb 65536 (es.take n)=nb 65536 (ds.take n)+65536^n*t):nb 65536 l=x-y:=by
 have h1:es.length≤n:=by rw [←hn,hds,hes];exact AX fZ hxy
 rw [List.take_of_length_le (by omega),List.take_of_length_le h1,List.take_of_length_le (by omega),hds,hes,iO fZ,iO fZ] at h
 have h2:=nS hw
 rw [hl] at h2
 have e:t=0:=by
  refine Nat.eq_zero_of_not_pos fun f=>?_
  have e:65536^n*1≤65536^n*t:=fN _ f
  omega
 rw [e] at h
 omega
theorem VZ (h:y≤x):cV .lss (cX x y) 0=some false:=by
 have e:¬cX x y<0:=fun e=>by have:=lF.1 e;omega
 exact mT
theorem W6 (h:y≤x):y≤x:=h
theorem Bk.ri0 (h:Bk w g t (l.map I6))(hw:Wfb 65536 l)(hl:l.length=N)(hN:N≤9223372036854775807):Ri 65536 w (some ⟨g,0,none⟩) N N l:=by
 have:=h.ri hw (o:=0) (n:=N) (cap:=N) (aX _) (by omega) (by rw [eA];exact hN)
 rwa [gQ,List.take_of_length_le (Nat.le_of_eq hl)] at this
theorem PN {cd:Nat}(hx:Rd w A n cap xs)(hln:n≤137438953472)(hy:Rd w D m cd ys)(hlm:m≤137438953472)(hle:nv ys≤nv xs):aQ aH 130 #[i9 A n cap,i9 D m cd] w (Gv w (T2 (WR w.heap.size (nv xs-nv ys)) (Is (a9 0)))):=by
 refine bL Tryz.func130 G (n:=49) G (bq G) (args:= [i9 A n cap,i9 D m cd]) (bF [(0,i9 A n cap),(1,i9 D m cd)] ⟨rfl,rfl,up⟩ (sr (mv 2 G (a1 (sr (mv 1 G (cl (vs:= [i9 A n cap]) (Ext.refl w) (IG hx (by omega)) G (by kernel_rfl) fun _ _ r3 e2 o=>?_)))))))
 obtain⟨A4,e,c4,rfl,F⟩:=r3
 refine mv 1 G (a1 (sr (mv 1 G (cl (vs:= [i9 D m cd]) o (IG (hy.ext e2) (by omega)) G (by kernel_rfl) fun _ _ r7 e6 h=>?_))))
 obtain⟨X,n8,L,rfl,r⟩:=r7
 refine mv 1 G (a1 (a7 (a7 ?_)))
 have am:=F.len
 have cv:=GO hx
 have ck:=r.len
 have ci:=GO hy
 refine a6 (mv 2 G (cl (vs:= [i9 A4 e c4,i9 X n8 L]) h (U1 (F.ext e6) (by omega) r (by omega)) G (by kernel_rfl) fun _ _ dl E p=>?_))
 obtain rfl:=dl
 refine aA G G G false (VZ hle) (a1 (aN G (aW (aC (a7 ?_)))))
 obtain⟨ds,bh⟩:∃ds,ds=(db 65536 (nv xs)):=⟨_,rfl⟩
 rw [←bh] at F am cv
 have cg:=F.wf
 obtain⟨es,cm⟩:∃es,es=(db 65536 (nv ys)):=⟨_,rfl⟩
 rw [←cm] at r ck ci
 have bt:=r.wf
 refine a6 (mv 1 G (pu (v:= a9 e) G (l6 G (k:=e) G G G sC pE G fun f dd Z aj av=>?_)))
 rw [vE] at aj
 have ag:w.heap.size≤f:=by rw [←Z];exact p.size
 have dr:0<cap→∀a,A=some a→a.block≠f:=fun hc a ha=>by have:=((hx.ext (e2.t (e6.t E)))).rv.blk a ha hc;omega
 have dm:0<cd→∀a,D=some a→a.block≠f:=fun hc a ha=>by have:=((hy.ext (e2.t (e6.t E)))).rv.blk a ha hc;omega
 have ah:0<c4→∀a,A4=some a→a.block≠f:=fun hc a ha=>by have:=((F.ext (e6.t E))).rv.blk a ha hc;omega
 have Y:0<L→∀a,X=some a→a.block≠f:=fun hc a ha=>by have:=((r.ext E)).rv.blk a ha hc;omega
 clear Z
 have cx:=p.trans av
 refine mv 1 G (a1 (sr (mv 1 G (a1 (a7 (sr (mv 1 G (a1 (bI ?_)))))))))
 refine cU (T:=a0×Nat×Nat×List Nat)
  (fun⟨wr,i,t,l⟩=> [(6,i9 A4 e c4),(7,i9 X n8 L),(8,i9 (some ⟨f,0,none⟩) e e),(9,a9 t),(10,a9 i)])
  (fun⟨wr,i,t,l⟩=>wr)
  (fun⟨wr,i,t,l⟩=>(Ext w wr)∧(i≤e)∧(t≤1)∧(Bk wr f 3 (l.map I6))∧(l.length=e)∧(Wfb 65536 l)∧(nb 65536 (l.take i)+nb 65536 (es.take i)=nb 65536 (ds.take i)+65536^i*t)∧(Ri 65536 wr A4 e c4 ds)∧(Ri 65536 wr X n8 L es))
  (fun⟨wr,i,t,l⟩=>e-i)
  (⟨dd,0,0,_⟩:a0×Nat×Nat×List Nat) ⟨cx,bJ _,bJ _,aj,(List.length_replicate (n:=e) (a:=0)),pK (by decide) _,by simp [nb],(F.ext (e6.t (E.t av))),(r.ext (E.t av))⟩ G ⟨rfl,rfl,rfl,rfl,rfl,up⟩ ?_
 rintro⟨wr,i,t,l⟩ ⟨o,hi,ht,hb,hl,V,hv,U,W⟩
 refine cR [(6,i9 A4 e c4),(7,i9 X n8 L),(8,i9 (some ⟨f,0,none⟩) e e),(9,a9 t),(10,a9 i)] wr G ⟨rfl,rfl,rfl,rfl,rfl,up⟩ (a7 (a7 ?_))
 by_cases dw:i<e
 ·refine a6 (mv 2 G (pu (v:= a9 e) G (aA G G G true (dG (a:=i) (b:=e) G G) (a1 (aY G (aW (aC (a7 (bI (a7 ?_))))))))))
  have dz:=iT (b:=65536) cg i
  have dx:=iT (b:=65536) bt i
  by_cases dt:es.getD i 0+t≤ds.getD i 0
  ·obtain⟨bi,cf,cu,_⟩:=(U).at (by decide) (i:=i) (by omega)
   refine eI cQ 10 [] [Is (i9 A4 e c4),Is (a9 i),Is (.pointer (some bi)),Is (a9 ((ds.getD i 0:Nat):Int)),Is (i9 X n8 L),Is (a9 i),Is (a9 ((es.getD i 0:Nat):Int)),Is (a9 (((ds.getD i 0)-(es.getD i 0):Nat):Int)),Is (a9 t),Is (a9 ((((ds.getD i 0)-(es.getD i 0))-t:Nat):Int))] [[],[],[0,1],[2],[],[],[4,5],[3,6],[],[7,8]] [[],[],[0,1],[0,1,2],[],[],[4,5],[0,1,2,3,4,5,6],[],[0,1,2,3,4,5,6,7,8],[0,1,2,3,4,5,6,7,8,9]] rfl
    (aJ G G (aF G G ?_) (aJ G G (aF G G ?_) (aJ G G (aF G G ?_) (aJ G G (aF G G ?_) (aJ G G (aF G G ?_) (aJ G G (aF G G ?_) (aJ G G (aF G G ?_) (aJ G G (aF G G ?_) (aJ G G (aF G G ?_) (aJ G G (aF G G ?_) dY)))))))))) ?_
   ·exact fun _ _=>aG (mv 1 G (aI G aK G))
   ·exact fun _ _=>aG (mv 1 G (aI G aK G))
   ·exact fun _ _=>dk G G (dk G G (aG (bK G G G sC qC i G bi cf (aI G aK G))))
   ·exact fun _ de=>dk G G (aG (aL G G (cT JU (de.cell cu)) (aI G aK G)))
   ·exact fun _ _=>aG (mv 1 G (aI G aK G))
   ·exact fun _ _=>aG (mv 1 G (aI G aK G))
   ·intro _ bu
    have h:=o.trans bu
    refine dk G G (dk G G (aG (cl (vs:= [i9 X n8 L,a9 i]) h (IF (W.ext bu) (by omega) (by omega)) G (by kernel_rfl) fun _ _ df da p=>?_)))
    obtain rfl:=df
    exact aI G da rfl
   ·exact fun _ _=>dk G G (dk G G (aG (aR G G G (((ds.getD i 0)-(es.getD i 0):Nat):Int) (gI (a:=ds.getD i 0) (b:=es.getD i 0) G G) (aI G aK G))))
   ·exact fun _ _=>aG (mv 1 G (aI G aK G))
   ·exact fun _ _=>dk G G (dk G G (aG (aR G G G ((((ds.getD i 0)-(es.getD i 0))-t:Nat):Int) (gI (a:=(ds.getD i 0)-(es.getD i 0)) (b:=t) G G) (aI G aK G))))
   ·intro _ M
    have h:=o.trans M
    refine dk G G (dk G G (dk G G (dk G G (dk G G (dk G G (dk G G (dk G G (dk G G (dk G G (aG (mv 1 G (aS (eB ?_)))))))))))))
    refine aC (sr (mv 1 G (a1 (a7 (sr (mv 1 G (aA G G G false (cW (a:=((ds.getD i 0)-(es.getD i 0))-t) (b:=0) G G) (a1 (aN G (aW (aC (a6 (mv 1 G ?_)))))))))))))
    refine mv 2 G (bK G G G sC qC i G ⟨f,i,none⟩ (dN _ _) ?_)
    have ar:=(hb.ext M)
    refine d6 G G G qC G ar (gL (by rw [hl];omega)) G ((l.set i (((ds.getD i 0)-(es.getD i 0))-t)).map I6) (oZ _ _ _) fun co aw H _=>?_
    have p:=H.ext h ag
    refine aS (bG (aC (a6 (mv 1 G (aR G G G ((i+1:Nat):Int) (bN (a:=i) (b:=1) G G) (mv 1 G (aS (bW (⟨co,i+1,0,_⟩:a0×Nat×Nat×List Nat) ⟨p,(by omega),(by decide),aw,(iR (l:=l) (hl)),iF V _,DT (by omega) (by omega) hv (by omega),(Ri.updL (U.ext M) H ah),(Ri.updL (W.ext M) H Y)⟩ (show e-(i+1)<e-i by omega) G ⟨rfl,rfl,rfl,rfl,rfl,up⟩))))))))
  ·obtain⟨ae,au,bd,_⟩:=(U).at (by decide) (i:=i) (by omega)
   refine eI cQ 10 [] [Is (i9 A4 e c4),Is (a9 i),Is (.pointer (some ae)),Is (a9 ((ds.getD i 0:Nat):Int)),Is (i9 X n8 L),Is (a9 i),Is (a9 ((es.getD i 0:Nat):Int)),Is (a9 (((ds.getD i 0:Nat):Int)-((es.getD i 0:Nat):Int))),Is (a9 t),Is (a9 ((((ds.getD i 0:Nat):Int)-((es.getD i 0:Nat):Int))-((t:Nat):Int)))] [[],[],[0,1],[2],[],[],[4,5],[3,6],[],[7,8]] [[],[],[0,1],[0,1,2],[],[],[4,5],[0,1,2,3,4,5,6],[],[0,1,2,3,4,5,6,7,8],[0,1,2,3,4,5,6,7,8,9]] rfl
    (aJ G G (aF G G ?_) (aJ G G (aF G G ?_) (aJ G G (aF G G ?_) (aJ G G (aF G G ?_) (aJ G G (aF G G ?_) (aJ G G (aF G G ?_) (aJ G G (aF G G ?_) (aJ G G (aF G G ?_) (aJ G G (aF G G ?_) (aJ G G (aF G G ?_) dY)))))))))) ?_
   ·exact fun _ _=>aG (mv 1 G (aI G aK G))
   ·exact fun _ _=>aG (mv 1 G (aI G aK G))
   ·exact fun _ _=>dk G G (dk G G (aG (bK G G G sC qC i G ae au (aI G aK G))))
   ·exact fun _ ce=>dk G G (aG (aL G G (cT JU (ce.cell bd)) (aI G aK G)))
   ·exact fun _ _=>aG (mv 1 G (aI G aK G))
   ·exact fun _ _=>aG (mv 1 G (aI G aK G))
   ·intro _ aa
    have h:=o.trans aa
    refine dk G G (dk G G (aG (cl (vs:= [i9 X n8 L,a9 i]) h (IF (W.ext aa) (by omega) (by omega)) G (by kernel_rfl) fun _ _ bw bv p=>?_)))
    obtain rfl:=bw
    exact aI G bv rfl
   ·exact fun _ _=>dk G G (dk G G (aG (aR G G G (((ds.getD i 0:Nat):Int)-((es.getD i 0:Nat):Int)) (fH G) (aI G aK G))))
   ·exact fun _ _=>aG (mv 1 G (aI G aK G))
   ·exact fun _ _=>dk G G (dk G G (aG (aR G G G ((((ds.getD i 0:Nat):Int)-((es.getD i 0:Nat):Int))-((t:Nat):Int)) (fH G) (aI G aK G))))
   ·intro _ q
    have h:=o.trans q
    refine dk G G (dk G G (dk G G (dk G G (dk G G (dk G G (dk G G (dk G G (dk G G (dk G G (aG (mv 1 G (aS (eB ?_)))))))))))))
    refine aC (sr (mv 1 G (a1 (a7 (sr (mv 1 G (aA G G G true (p8 (by omega)) (a1 (aY G (sr (mv 1 G (aR G G G ((ds.getD i 0+65536-es.getD i 0-t:Nat):Int) (xE) (mv 1 G ?_)))))))))))))
    refine a1 (a6 (mv 1 G (a1 (a6 (mv 3 G (bK G G G sC qC i G ⟨f,i,none⟩ (dN _ _) ?_))))))
    have ao:=(hb.ext q)
    refine d6 G G G qC G ao (gL (by rw [hl];omega)) G ((l.set i (ds.getD i 0+65536-es.getD i 0-t)).map I6) (oZ _ _ _) fun ct az I _=>?_
    have p:=I.ext h ag
    refine aS (bG (aC (a6 (mv 1 G (aR G G G ((i+1:Nat):Int) (bN (a:=i) (b:=1) G G) (mv 1 G (aS (bW (⟨ct,i+1,1,_⟩:a0×Nat×Nat×List Nat) ⟨p,(by omega),(by decide),az,(iR (l:=l) (hl)),iF V _,DT (by omega) (by omega) hv (by omega),(Ri.updL (U.ext q) I ah),(Ri.updL (W.ext q) I Y)⟩ (show e-(i+1)<e-i by omega) G ⟨rfl,rfl,rfl,rfl,rfl,up⟩))))))))
 ·refine a6 (mv 2 G (pu (v:= a9 e) G (aA G G G false (cW (a:=i) (b:=e) G G) (a1 (aN G (cN (cI (cL (cM (aC (a7 ?_)))))))))))
  obtain rfl:e=i:=by omega
  have bz:=MM bh cm (W6 hle) am hl V hv
  refine a6 (mv 1 G (cl (vs:= [i9 (some ⟨f,0,none⟩) e e]) o (U3 o.size (hb.ri0 V hl (by omega)) (by omega)) G (by kernel_rfl) fun _ _ cj _ h=>?_))
  obtain⟨bj,bo,bm,rfl,ak,ab⟩:=cj
  refine mv 2 G (a1 (aU (aT [i9 bj bo bm,I0] G ⟨rfl,rfl,up⟩ ?_)))
  rw [bz] at ak ab
  exact⟨_,rfl,⟨_,_,rfl,⟨_,_,_,rfl,ak,ab⟩,rfl⟩,h⟩
def TR (A:Option a8)(n c:Nat)(xs:List Nat)(v:aD)(_:a0):Prop:=∃k,v= i9 A k c∧k≤n∧(k=0∨xs.getD (k-1) 0≠0)∧∀b,nb b (xs.take k)=nb b xs
theorem M6 (hk:k>0)(hl:k≤xs.length)(h0:xs.getD (k-1) 0=0)(hv:∀b,nb b (xs.take k)=nb b xs)(b:Nat):nb b (xs.take (k-1))=nb b xs:=by
 rw [←hv b,←vL b xs (k-1) (by omega) h0,iH hk]
theorem DY (A:Option a8)(c k:Nat):oD (if c=0 then A else A.map (·.add (0*1))) (k-0) (c-0)= i9 A k c:=by
 have h0:A.map (·.add (0*1))=A:=by
  cases A with
  | none=>rfl
  | some a=>simp [WV]
 rw [h0,ite_self];rfl
def WD (m:Nat)(v:aD)(w:a0):Prop:=∃A k c,v= i9 A k c∧Rd w A k c (db 4294967296 m)
theorem kA:2≤4294967296:=by decide
theorem tO:WB=4294967296^2:=by decide
theorem Wfb.wf (h:Wfb 4294967296 xs):Wf xs:=fun x hx=>Nat.lt_trans (h x hx) (by decide)
theorem Bk.rd0 (h:Bk w g t (l.map bC))(hw:Wf l)(hl:l.length=N)(hN:N≤9223372036854775807):Rd w (some ⟨g,0,none⟩) N N l:=by
 have:=h.rd hw (o:=0) (n:=N) (cap:=N) (aX _) (by omega) (by rw [eA];exact hN)
 rwa [gQ,List.take_of_length_le (Nat.le_of_eq hl)] at this
theorem Rd.trim (h:Rd w A n c xs)(hw:Wfb 4294967296 xs)(hk:k≤n)(ht:k=0∨xs.getD (k-1) 0≠0)(hv:∀b,nb b (xs.take k)=nb b xs):Rd w A k c (db 4294967296 (nb 4294967296 xs)):=by
 rw [wV kA hw (by rw [h.len];exact hk) (hv _) ht]
 exact h.take hk (by have:=h.rv.le;omega) (aX _)
theorem SH (hl:2*i+1<l.length)(hi:i<xs.length)(hx:xs.getD i 0=x)(h:nb 4294967296 (l.take (2*i))=nv (xs.take i)):nb 4294967296 (((l.set (2*i) (x%4294967296)).set (2*i+1) (x/4294967296)).take (2*(i+1)))=nv (xs.take (i+1)):=by
 rw [show 2*(i+1)=2*i+1+1 by omega,nR 4294967296 (by rw [List.length_set];exact hl),nR 4294967296 (by omega),h,eL xs i hi,hx,tO,←Nat.pow_mul,dJ,bY,j5,←cZ,jF]
structure WI (ys l:List Nat)(i:Nat):Prop where
 wf:Wf l
 v:nv l=nb 4294967296 (ys.take i)
 z:∀j,i≤2*j→l.getD j 0=0
 o:i%2=1→l.getD (i/2) 0<4294967296
theorem WI.start (ys:List Nat)(N:Nat):WI ys (cJ N 0) 0:=by
 refine⟨fun x hx=>by rw [(List.mem_replicate.1 hx).2];decide,?_,fun j _=>?_,fun h=>by omega⟩
 ·rw [sQ,vK];rfl
 ·rw [bE]
  by_cases h:j<N
  ·rw [List.getElem?_replicate_of_lt h];rfl
  ·rw [gW (by rw [List.length_replicate];omega)];rfl
theorem WI.even (h:WI ys l i)(he:i%2=0)(hi:i<ys.length)(hl:i/2<l.length)(hd:ys.getD i 0<4294967296):WI ys (l.set (i/2) (ys.getD i 0)) (i+1):=by
 have h0:=h.z (i/2) (by omega)
 have h1:=nP hl (ys.getD i 0)
 refine⟨gO h.wf _ (Nat.lt_trans hd (by decide)),?_,fun j hj=>?_,fun _=>?_⟩
 ·rw [hJ 4294967296 ys i hi,←h.v]
  rw [h0,gJ,eS,tO,←Nat.pow_mul,show 2*(i/2)=i by omega] at h1
  exact h1
 ·rw [getD_set_ne (by omega),h.z j (by omega)]
 ·rw [show (i+1)/2=i/2 by omega,rH hl];exact hd
theorem WI.odd (h:WI ys l i)(he:i%2=1)(hi:i<ys.length)(hl:i/2<l.length)(hd:ys.getD i 0<4294967296):WI ys (l.set (i/2) (l.getD (i/2) 0+ys.getD i 0*4294967296)) (i+1):=by
 have h0:=h.o he
 have h1:=nP hl (l.getD (i/2) 0+ys.getD i 0*4294967296)
 refine⟨gO h.wf _ (by rw [cC];omega),?_,fun j hj=>?_,fun h=>by omega⟩
 ·have e:WB^(i/2)*4294967296=4294967296^i:=by
   rw [tO,←Nat.pow_mul,←dJ,show (2*(i/2)).succ=i by omega]
  rw [hJ 4294967296 ys i hi,←h.v,←e]
  rw [cZ] at h1
  have f:WB^(i/2)*(ys.getD i 0*4294967296)=WB^(i/2)*4294967296*ys.getD i 0:=by rw [cY (ys.getD i 0),bY]
  omega
 ·rw [getD_set_ne (by omega),h.z j (by omega)]
theorem WI.done (h:WI ys l k)(hk:ys.length=k)(hl:l.length=(k+1)/2)(hv:nb 4294967296 ys=nb 4294967296 xs)(ht:k=0∨ys.getD (k-1) 0≠0):l.take ((k+1)/2)=wd (nb 4294967296 xs):=by
 have e:nv l=nb 4294967296 xs:=by rw [h.v,List.take_of_length_le (Nat.le_of_eq hk),hv]
 rw [List.take_of_length_le (by omega),←e]
 refine (D6 h.wf ?_).symm
 by_cases h0:k=0
 ·left;omega
 ·right
  have h1:ys.getD (k-1) 0≠0:=by omega
  rw [e,←hv,l9 4294967296 ys (k-1),hl]
  have h2:WB^((k+1)/2-1)≤4294967296^(k-1):=by
   rw [tO,←Nat.pow_mul]
   exact eW (by decide) (by omega)
  have f:1≤nb 4294967296 (ys.drop (k-1)):=by
   rw [List.drop_eq_getElem_cons (by omega),kG]
   rw [bE,bR (by omega),lJ] at h1
   omega
  have o:4294967296^(k-1)*1≤4294967296^(k-1)*nb 4294967296 (ys.drop (k-1)):=fN _ f
  omega
theorem ME (h:k=0∨xs.getD (k-1) 0≠0):k=0∨(xs.take k).getD (k-1) 0≠0:=by
 by_cases h0:k=0
 ·exact cD h0
 ·rw [wD (by omega)];exact h
theorem qL (hx:Rd w A n cap xs)(hln:n≤1099511627776:=by omega):aQ aH 241 #[i9 A n cap] w (Gv w (TR A n cap xs)):=by
 have F:=hx.len
 have L:=hx.rv.le
 refine bL Tryz.func241 G (n:=21) G (bq G) (args:= [i9 A n cap]) (bF [(0,i9 A n cap)] ⟨rfl,up⟩ (sr (mv 1 G (a1 (sr (mv 1 G (pu (v:= a9 n) G (mv 1 G (a1 (a7 (bI ?_)))))))))))
 refine cU (T:=a0×Nat)
  (fun⟨wr,k⟩=> [(0,i9 A n cap),(3,a9 k)])
  (fun⟨wr,k⟩=>wr)
  (fun⟨wr,k⟩=>(Ext w wr)∧(k≤n)∧(∀b,nb b (xs.take k)=nb b xs)∧(Rd wr A n cap xs))
  (fun⟨wr,k⟩=>k)
  (⟨w,n⟩:a0×Nat) ⟨(Ext.refl w),aX _,fun b=>by rw [List.take_of_length_le (by omega)],hx⟩ G ⟨rfl,rfl,up⟩ ?_
 rintro⟨wr,k⟩ ⟨f,H,p,e⟩
 refine cR [(0,i9 A n cap),(3,a9 k)] wr G ⟨rfl,rfl,up⟩ (a7 (a7 ?_))
 by_cases h:k>0
 ·by_cases E:xs.getD (k-1) 0=0
  ·refine a6 (mv 1 G (aA G G G true (fB (a:=k) (b:=0) G G) (mv 3 G (aR G G G ((k-1:Nat):Int) (gI (a:=k) (b:=1) G G) ?_))))
   obtain⟨M,r,q,_⟩:=(e).at (i:=k-1) (by omega)
   refine bK G G G bS bM (k-1) G M r (aL G G (cT d7 q) (aA G G G true (fM (a:=xs.getD (k-1) 0) (b:=0) G G) (pu (v:= no) G (a1 (aY G (aW (aC (bI (a6 (mv 1 G (aR G G G ((k-1:Nat):Int) (gI (a:=k) (b:=1) G G) (mv 1 G (aS ?_)))))))))))))
   refine bG (bW (⟨wr,k-1⟩:a0×Nat) ⟨f,(by omega),M6 h (by omega) E p,e⟩ (show k-1<k by omega) G ⟨rfl,rfl,up⟩)
  ·refine a6 (mv 1 G (aA G G G true (fB (a:=k) (b:=0) G G) (mv 3 G (aR G G G ((k-1:Nat):Int) (gI (a:=k) (b:=1) G G) ?_))))
   obtain⟨I,D,o,_⟩:=(e).at (i:=k-1) (by omega)
   refine bK G G G bS bM (k-1) G I D (aL G G (cT d7 o) (aA G G G false (fT (a:=xs.getD (k-1) 0) (b:=0) G G) (pu (v:= t9) G (a1 (aN G (cN (cI (cL (cM (aC (sr (mv 2 G (lT G G bS bM (lo:=0) (hi:=k) G G (by omega) (by omega) (v:= i9 A k cap) (DY _ _ _) (by decide) ?_)))))))))))))
   refine mv 1 G (a1 (aU (aT [i9 A k cap] G ⟨rfl,up⟩ ?_)))
   exact⟨_,rfl,⟨k,rfl,H,bT E,p⟩,f⟩
 ·refine a6 (mv 1 G (aA G G G false (fC (a:=k) (b:=0) G G) (mv 7 G (pu (v:= t9) G (a1 (aN G (cN (cI (cL (cM (aC (sr (mv 1 G ?_)))))))))))))
  refine mv 1 G (lT G G bS bM (lo:=0) (hi:=k) G G (by omega) (by omega) (v:= i9 A k cap) (DY _ _ _) (by decide) (mv 1 G (a1 (aU (aT [i9 A k cap] G ⟨rfl,up⟩ ?_)))))
  exact⟨_,rfl,⟨k,rfl,H,cD (by omega),p⟩,f⟩
theorem zN (hx:Rd w A n cap xs)(hln:n≤274877906944:=by omega):aQ aH 229 #[i9 A n cap] w (Gv w (WD (nv xs))):=by
 have az:=hx.len
 have bt:=hx.rv.le
 refine bL Tryz.func229 G (n:=38) G (bq G) (args:= [i9 A n cap]) (bF [(0,i9 A n cap)] ⟨rfl,up⟩ (sr (mv 1 G (a1 (sr (mv 1 G (cl (vs:= [i9 A n cap]) (Ext.refl w) (qL hx) G (by kernel_rfl) fun _ _ r3 e2 o=>?_)))))))
 obtain⟨e,rfl,ak,_,aj⟩:=r3
 have f:=((hx.ext e2)).take ak (by omega) (aX _)
 refine mv 1 G (a1 (a7 ?_))
 obtain⟨ys,M⟩:∃ys,xs.take e=ys:=⟨_,rfl⟩
 have ao:nv ys=nv xs:=by rw [←M,sQ,sQ];exact aj _
 rw [M] at f
 have bh:=f.len
 refine a6 (mv 1 G (pu (v:= a9 e) G (aR G G G ((2*e:Nat):Int) (pI (a:=2) (b:=e) G G) (l6 G (k:=2*e) G G G bS iB G fun r v6 V H e9=>?_))))
 rw [jY] at H
 have D:w.heap.size≤r:=by rw [←V];exact o.size
 have h:0<cap→∀a,A=some a→a.block≠r:=fun hc a ha=>by have:=(f).rv.blk a ha hc;omega
 clear V
 have p:=o.trans e9
 refine mv 1 G (a1 (a7 (sr (mv 1 G (a1 (bI ?_))))))
 refine cU (T:=a0×Nat×List Nat)
  (fun⟨wr,i,l⟩=> [(0,i9 A e cap),(3,i9 (some ⟨r,0,none⟩) (2*e) (2*e)),(4,a9 i)])
  (fun⟨wr,i,l⟩=>wr)
  (fun⟨wr,i,l⟩=>(Ext w wr)∧(i≤e)∧(Bk wr r 65 (l.map bC))∧(l.length=2*e)∧(Wfb 4294967296 l)∧(nb 4294967296 (l.take (2*i))=nv (ys.take i))∧(Rd wr A e cap ys))
  (fun⟨wr,i,l⟩=>e-i)
  (⟨v6,0,_⟩:a0×Nat×List Nat) ⟨p,bJ _,H,(List.length_replicate (n:=2*e) (a:=0)),pK (by decide) _,by simp [nb,nv],(f.ext e9)⟩ G ⟨rfl,rfl,rfl,up⟩ ?_
 rintro⟨wr,i,l⟩ ⟨o,hi,hb,hl,q,hv,F⟩
 refine cR [(0,i9 A e cap),(3,i9 (some ⟨r,0,none⟩) (2*e) (2*e)),(4,a9 i)] wr G ⟨rfl,rfl,rfl,up⟩ (a7 (a7 ?_))
 by_cases bg:i<e
 ·refine a6 (mv 2 G (pu (v:= a9 e) G (aA G G G true (dG (a:=i) (b:=e) G G) (a1 (aY G (aW (aC (a7 (bI (a7 ?_))))))))))
  have bi:ys.getD i 0≤18446744073709551615:=by have:=rN f.wf i;rw [cC] at this;omega
  refine a6 (mv 2 G (aR G G G ((2*i:Nat):Int) (pI (a:=2) (b:=i) G G) (mv 2 G ?_)))
  obtain⟨aw,ag,Z,_⟩:=(F).at (i:=i) (by omega)
  refine bK G G G bS bM i G aw ag (aL G G (cT d7 Z) (aR G G G (((ys.getD i 0)%4294967296:Nat):Int) (kV (a:=ys.getD i 0) (b:=4294967296) G G) (bK G G G bS bM (2*i) G ⟨r,2*i,none⟩ (dN _ _) ?_)))
  have I:=hb
  refine d6 G G G bM G I (gL (by rw [hl];omega)) G ((l.set (2*i) ((ys.getD i 0)%4294967296)).map bC) (dP _ _ _) fun _ Y E _=>?_
  have p:=E.ext o D
  refine a1 (a6 (mv 2 G (aR G G G ((2*i:Nat):Int) (pI (a:=2) (b:=i) G G) (aR G G G (((2*i)+1:Nat):Int) (bN (a:=2*i) (b:=1) G G) (mv 2 G ?_)))))
  obtain⟨aq,X,L,_⟩:=((Rd.updL F E h)).at (i:=i) (by omega)
  refine bK G G G bS bM i G aq X (aL G G (cT d7 L) (aR G G G (((ys.getD i 0)/4294967296:Nat):Int) (kB (a:=ys.getD i 0) (b:=4294967296) G G) (bK G G G bS bM ((2*i)+1) G ⟨r,(2*i)+1,none⟩ (dN _ _) (d6 G G G bM G Y (gL (by rw [(iR (l:=l) (hl))];omega)) G (((l.set (2*i) ((ys.getD i 0)%4294967296)).set ((2*i)+1) ((ys.getD i 0)/4294967296)).map bC) (dP _ _ _) fun av ae aa _=>?_))))
  have au:=aa.ext p D
  refine aS (bG (aC (a6 (mv 1 G (aR G G G ((i+1:Nat):Int) (bN (a:=i) (b:=1) G G) (mv 1 G (aS (bW (⟨av,i+1,_⟩:a0×Nat×List Nat) ⟨au,(by omega),ae,(iR (l:=l.set (2*i) ((ys.getD i 0)%4294967296)) ((iR (l:=l) (hl)))),iF (iF q _ (hx:=(fV _ (by decide)))) _,SH (by omega) (by omega) G hv,(Rd.updL (Rd.updL F E h) aa h)⟩ (show e-(i+1)<e-i by omega) G ⟨rfl,rfl,rfl,up⟩))))))))
 ·refine a6 (mv 2 G (pu (v:= a9 e) G (aA G G G false (cW (a:=i) (b:=e) G G) (a1 (aN G (cN (cI (cL (cM (aC (a7 ?_)))))))))))
  obtain rfl:e=i:=by omega
  have ah:nb 4294967296 l=nv xs:=by rw [←ao];rwa [List.take_of_length_le (by omega),List.take_of_length_le (by omega)] at hv
  refine a6 (mv 1 G (cl (vs:= [i9 (some ⟨r,0,none⟩) (2*e) (2*e)]) o (qL (hb.rd0 q.wf hl (by omega))) G (by kernel_rfl) fun _ _ ar ai p=>?_))
  obtain⟨am,rfl,U,ab,W⟩:=ar
  refine mv 1 G (a1 (aU (aT [i9 (some ⟨r,0,none⟩) am (2*e)] G ⟨rfl,up⟩ ?_)))
  have hr:=((hb.ext ai).rd0 q.wf hl (by omega)).trim q U ab W
  rw [ah] at hr
  exact⟨_,rfl,⟨_,_,_,rfl,hr⟩,p⟩
theorem PF (hx:Rd w A n cap xs)(hln:n≤1099511627776)(hwx:Wfb 4294967296 xs):aQ aH 231 #[i9 A n cap] w (Gv w (WR w.heap.size (nb 4294967296 xs))):=by
 have bf:=hx.len
 have bv:=hx.rv.le
 refine bL Tryz.func231 G (n:=45) G (bq G) (args:= [i9 A n cap]) (bF [(0,i9 A n cap)] ⟨rfl,up⟩ (sr (mv 1 G (a1 (sr (mv 1 G (cl (vs:= [i9 A n cap]) (Ext.refl w) (qL hx) G (by kernel_rfl) fun _ _ r3 e2 h=>?_)))))))
 obtain⟨e,rfl,ar,az,aq⟩:=r3
 have r:=((hx.ext e2)).take ar (by omega) (aX _)
 refine mv 1 G (a1 (a7 ?_))
 have I:Wfb 4294967296 (xs.take e):=jE hwx _
 have ag:=ME az
 have W:=aq 4294967296
 obtain⟨ys,au⟩:∃ys,xs.take e=ys:=⟨_,rfl⟩
 rw [au] at r I ag W
 have av:=r.len
 refine a6 (mv 1 G (pu (v:= a9 e) G (aR G G G ((e+1:Nat):Int) (bN (a:=e) (b:=1) G G) (aR G G G (((e+1)/2:Nat):Int) (lG (a:=e+1) (b:=2) G G) (l6 G (k:=(e+1)/2) G G G bS iB G fun f v6 aa M e9=>?_)))))
 rw [jY] at M
 have q:w.heap.size≤f:=by rw [←aa];exact h.size
 have E:0<cap→∀a,A=some a→a.block≠f:=fun hc a ha=>by have:=(r).rv.blk a ha hc;omega
 clear aa
 have p:=h.trans e9
 refine mv 1 G (a1 (a7 (sr (mv 1 G (a1 (bI ?_))))))
 refine cU (T:=a0×Nat×List Nat)
  (fun⟨wr,i,l⟩=> [(0,i9 A e cap),(3,i9 (some ⟨f,0,none⟩) ((e+1)/2) ((e+1)/2)),(4,a9 i)])
  (fun⟨wr,i,l⟩=>wr)
  (fun⟨wr,i,l⟩=>(Ext w wr)∧(i≤e)∧(Bk wr f 65 (l.map bC))∧(l.length=(e+1)/2)∧(WI ys l i)∧(Rd wr A e cap ys))
  (fun⟨wr,i,l⟩=>e-i)
  (⟨v6,0,_⟩:a0×Nat×List Nat) ⟨p,bJ _,M,(List.length_replicate (n:=(e+1)/2) (a:=0)),WI.start _ _,(r.ext e9)⟩ G ⟨rfl,rfl,rfl,up⟩ ?_
 rintro⟨wr,i,l⟩ ⟨h,hi,hb,hl,hI,D⟩
 refine cR [(0,i9 A e cap),(3,i9 (some ⟨f,0,none⟩) ((e+1)/2) ((e+1)/2)),(4,a9 i)] wr G ⟨rfl,rfl,rfl,up⟩ (a7 (a7 ?_))
 by_cases bj:i<e
 ·refine a6 (mv 2 G (pu (v:= a9 e) G (aA G G G true (dG (a:=i) (b:=e) G G) (a1 (aY G (aW (aC (a7 (bI (a7 ?_))))))))))
  have X:=iT (b:=4294967296) I i
  by_cases hp:i%2=0
  ·refine a6 (mv 1 G (aR G G G ((i%2:Nat):Int) (kV (a:=i) (b:=2) G G) (aA G G G true (fM (a:=i%2) (b:=0) G G) (a1 (aY G (a6 (mv 2 G (aR G G G ((i/2:Nat):Int) (lG (a:=i) (b:=2) G G) (mv 2 G ?_)))))))))
   obtain⟨bd,ak,ah,_⟩:=(D).at (i:=i) (by omega)
   refine bK G G G bS bM i G bd ak (aL G G (cT d7 ah) (bK G G G bS bM (i/2) G ⟨f,i/2,none⟩ (dN _ _) ?_))
   have U:=hb
   refine d6 G G G bM G U (gL (by rw [hl];omega)) G ((l.set (i/2) (ys.getD i 0)).map bC) (dP _ _ _) fun ba ae Z _=>?_
   have p:=Z.ext h q
   refine aS (bG (aC (a6 (mv 1 G (aR G G G ((i+1:Nat):Int) (bN (a:=i) (b:=1) G G) (mv 1 G (aS (bW (⟨ba,i+1,_⟩:a0×Nat×List Nat) ⟨p,(by omega),ae,(iR (l:=l) (hl)),hI.even hp (by omega) (by omega) X,(Rd.updL D Z E)⟩ (show e-(i+1)<e-i by omega) G ⟨rfl,rfl,rfl,up⟩))))))))
  ·have aF:=hI.o (by omega)
   refine a6 (mv 1 G (aR G G G ((i%2:Nat):Int) (kV (a:=i) (b:=2) G G) (aA G G G false (fT (a:=i%2) (b:=0) G G) (a1 (aN G (bF [(0,i9 A e cap),(3,i9 (some ⟨f,0,none⟩) ((e+1)/2) ((e+1)/2)),(4,a9 i),(12,a9 i),(13,i9 A e cap),(14,a9 e),(15,no),(18,a9 i),(19,a9 ((i%2:Nat):Int)),(20,t9)] ⟨rfl,rfl,rfl,rfl,rfl,rfl,rfl,rfl,rfl,rfl,up⟩ ?_))))))
   obtain⟨am,hv,o⟩:∃v,v=wr.drew∧Ext wr v:=⟨_,rfl,aK.drew⟩
   have p:=h.trans o
   obtain⟨F,H,aj,_⟩:=((D.ext o)).at (i:=i) (by omega)
   have ai:=(hb.ext o)
   obtain⟨Y,L,ab,V,_⟩:=sL (P:=aH) (v:= i5 (((l.getD (i/2) 0)+((ys.getD i 0)*4294967296):Nat):Int)) (off:=i/2) bM G ai (gL (by rw [hl];omega)) G ((l.set (i/2) ((l.getD (i/2) 0)+((ys.getD i 0)*4294967296))).map bC) (dP _ _ _)
   have aw:=V.ext p q
   refine gH cQ (w:=am) [i9 (some ⟨f,0,none⟩) ((e+1)/2) ((e+1)/2),a9 i,a9 ((i/2:Nat):Int),i9 (some ⟨f,0,none⟩) ((e+1)/2) ((e+1)/2),a9 i,a9 ((i/2:Nat):Int),.pointer (some (⟨f,i/2,none⟩)),i5 ((l.getD (i/2) 0:Nat):Int),i9 A e cap,a9 i,.pointer (some F),i5 ((ys.getD i 0:Nat):Int),i5 (((ys.getD i 0)*4294967296:Nat):Int),i5 (((l.getD (i/2) 0)+((ys.getD i 0)*4294967296):Nat):Int),.pointer (some (⟨f,i/2,none⟩)),undef] [am,Y] [15] [[],[],[1],[],[],[4],[3,5],[6],[],[],[8,9],[10],[11],[7,12],[0,2],[13,14]] [[],[],[1],[],[],[4],[3,4,5],[3,4,5,6],[],[],[8,9],[8,9,10],[8,9,10,11],[3,4,5,6,7,8,9,10,11,12],[0,1,2,3,4,5,6,7,8,9,10,11,12,13],[0,1,2,3,4,5,6,7,8,9,10,11,12,13,14]] [(0,0),(1,0),(2,0),(3,0),(4,0),(5,0),(6,0),(7,0),(8,0),(9,0),(10,0),(11,0),(12,0),(13,0),(14,0),(15,0)] G hv ?_ ?_
   ·refine aZ _ G G G G G (bO G) (aZ _ G G G G G (bO G) (aZ _ G G G G G (kQ G G ((i/2:Nat):Int) (lG (a:=i) (b:=2) G G)) (aZ _ G G G G G (bO G) (aZ _ G G G G G (bO G) (aZ _ G G G G G (kQ G G ((i/2:Nat):Int) (lG (a:=i) (b:=2) G G)) (aZ _ G G G G G (gZ G G bS bM (i/2) G ⟨f,i/2,none⟩ (dN _ _)) (aZ _ G G G G G (cH G (iA d7 (hb.ext o) (by rw [hl];omega))) (aZ _ G G G G G (bO G) (aZ _ G G G G G (bO G) (aZ _ G G G G G (gZ G G bS bM i G F H) (aZ _ G G G G G (cH G (cT d7 aj)) (aZ _ G G G G G (kQ G G (((ys.getD i 0)*4294967296:Nat):Int) (kW (a:=ys.getD i 0) (b:=4294967296) G G)) (aZ _ G G G G G (kQ G G (((l.getD (i/2) 0)+((ys.getD i 0)*4294967296):Nat):Int) (iD (a:=l.getD (i/2) 0) (b:=(ys.getD i 0)*4294967296) G G)) ?_)))))))))))))
    refine aZ _ G G G G G (gZ G G bS bM (i/2) G ⟨f,i/2,none⟩ (dN _ _)) (fG _ G G G G G (eO G G L) ?_)
    exact gG
   clear hv
   refine fX [(0,i9 A e cap),(3,i9 (some ⟨f,0,none⟩) ((e+1)/2) ((e+1)/2)),(4,a9 i),(12,a9 i),(13,i9 A e cap),(14,a9 e),(15,no),(18,a9 i),(19,a9 ((i%2:Nat):Int)),(20,t9),(29,i9 (some ⟨f,0,none⟩) ((e+1)/2) ((e+1)/2)),(30,a9 i),(31,a9 ((i/2:Nat):Int)),(32,i9 (some ⟨f,0,none⟩) ((e+1)/2) ((e+1)/2)),(33,a9 i),(34,a9 ((i/2:Nat):Int)),(35,.pointer (some (⟨f,i/2,none⟩))),(36,i5 ((l.getD (i/2) 0:Nat):Int)),(37,i9 A e cap),(38,a9 i),(39,.pointer (some F)),(40,i5 ((ys.getD i 0:Nat):Int)),(41,i5 (((ys.getD i 0)*4294967296:Nat):Int)),(42,i5 (((l.getD (i/2) 0)+((ys.getD i 0)*4294967296):Nat):Int)),(43,.pointer (some (⟨f,i/2,none⟩)))] ⟨rfl,rfl,rfl,rfl,rfl,rfl,rfl,rfl,rfl,rfl,rfl,rfl,rfl,rfl,rfl,rfl,rfl,rfl,rfl,rfl,rfl,rfl,rfl,rfl,rfl,up⟩ (bG (aC (a6 (mv 1 G (aR G G G ((i+1:Nat):Int) (bN (a:=i) (b:=1) G G) (mv 1 G (aS (bW (⟨Y,i+1,_⟩:a0×Nat×List Nat) ⟨aw,(by omega),ab,(iR (l:=l) (hl)),hI.odd (by omega) (by omega) (by omega) X,(Rd.updL (D.ext o) V E)⟩ (show e-(i+1)<e-i by omega) G ⟨rfl,rfl,rfl,up⟩))))))))
 ·refine a6 (mv 2 G (pu (v:= a9 e) G (aA G G G false (cW (a:=i) (b:=e) G G) (a1 (aN G (cN (cI (cL (cM (aC (sr (mv 2 G (aS ?_)))))))))))))
  refine aC (aU (aT [i9 (some ⟨f,0,none⟩) ((e+1)/2) ((e+1)/2)] G ⟨rfl,up⟩ ?_))
  obtain rfl:e=i:=by omega
  exact gw (aX _) _ _ (rO (ys:=l) q hb hl (aX _) (by rw [eA];omega) (hI.done av hl W ag) h)
def AR (b N m:Nat)(v:aD)(w:a0):Prop:=∃g l,v= i9 (some ⟨g,0,none⟩) N N∧b≤g∧Bk w g 65 (l.map bC)∧l.length=N∧Wfb 4294967296 l∧nb 4294967296 l=m
theorem NY (hl:i<l.length)(hi:i<xs.length)(h:nb 4294967296 (l.take i)+4294967296^i*c=nb 4294967296 (xs.take i)*f):nb 4294967296 ((l.set i ((xs.getD i 0*f+c)%4294967296)).take (i+1))+4294967296^(i+1)*((xs.getD i 0*f+c)/4294967296)=nb 4294967296 (xs.take (i+1))*f:=by
 rw [nR 4294967296 hl,dJ,bY,j5,←cZ,jF,hJ 4294967296 xs i hi,dO,←h,cZ,bY]
 omega
theorem F4 (hx:Rd w A n cap xs)(hln:n≤274877906944)(hwx:Wfb 4294967296 xs)(hf:f≤4294967295):aQ aH 259 #[i9 A n cap,i5 f] w (Gv w (AR w.heap.size (n+1) (nb 4294967296 xs*f))):=by
 have aa:=hx.len
 have am:=hx.rv.le
 refine bL Tryz.func259 G (n:=40) G (bq G) (args:= [i9 A n cap,i5 f]) (bF [(0,i9 A n cap),(1,i5 f)] ⟨rfl,rfl,up⟩ (sr (mv 1 G (a1 (sr (mv 1 G (pu (v:= a9 n) G (aR G G G ((n+1:Nat):Int) (bN (a:=n) (b:=1) G G) (l6 G (k:=n+1) G G G bS iB G fun h v2 q I Z=>?_)))))))))
 rw [jY] at I
 have o:w.heap.size≤h:=by rw [←q];exact (Ext.refl w).size
 have V:0<cap→∀a,A=some a→a.block≠h:=fun hc a ha=>by have:=(hx).rv.blk a ha hc;omega
 clear q
 have e:=(Ext.refl w).trans Z
 refine mv 1 G (a1 (sr (mv 1 G (a1 (a7 (sr (mv 1 G (a1 (bI ?_)))))))))
 refine cU (T:=a0×Nat×Nat×List Nat)
  (fun⟨wr,i,c,l⟩=> [(0,i9 A n cap),(1,i5 f),(5,i9 (some ⟨h,0,none⟩) (n+1) (n+1)),(6,i5 c),(7,a9 i)])
  (fun⟨wr,i,c,l⟩=>wr)
  (fun⟨wr,i,c,l⟩=>(Ext w wr)∧(i≤n)∧(c≤4294967295)∧(Bk wr h 65 (l.map bC))∧(l.length=n+1)∧(Wfb 4294967296 l)∧(nb 4294967296 (l.take i)+4294967296^i*c=nb 4294967296 (xs.take i)*f)∧(Rd wr A n cap xs))
  (fun⟨wr,i,c,l⟩=>n-i)
  (⟨v2,0,0,_⟩:a0×Nat×Nat×List Nat) ⟨e,bJ _,bJ _,I,(List.length_replicate (n:=n+1) (a:=0)),pK (by decide) _,by simp [nb],(hx.ext Z)⟩ G ⟨rfl,rfl,rfl,rfl,rfl,up⟩ ?_
 rintro⟨wr,i,c,l⟩ ⟨e,hi,hc,hb,hl,r,hv,L⟩
 refine cR [(0,i9 A n cap),(1,i5 f),(5,i9 (some ⟨h,0,none⟩) (n+1) (n+1)),(6,i5 c),(7,a9 i)] wr G ⟨rfl,rfl,rfl,rfl,rfl,up⟩ (a7 (a7 ?_))
 by_cases ah:i<n
 ·refine a6 (mv 2 G (pu (v:= a9 n) G (aA G G G true (dG (a:=i) (b:=n) G G) (a1 (aY G (aW (aC (a7 (bI (a7 ?_))))))))))
  have ai:=iT (b:=4294967296) hwx i
  have hm:(xs.getD i 0)*f≤4294967295*4294967295:=j3 (by omega) hf
  refine a6 (mv 2 G ?_)
  obtain⟨p9,W,X,_⟩:=(L).at (i:=i) (by omega)
  refine bK G G G bS bM i G p9 W (aL G G (cT d7 X) (mv 1 G (aR G G G (((xs.getD i 0)*f:Nat):Int) (kW (a:=xs.getD i 0) (b:=f) G G) (mv 1 G (aR G G G ((((xs.getD i 0)*f)+c:Nat):Int) (iD (a:=(xs.getD i 0)*f) (b:=c) G G) (mv 1 G (a1 (sr (mv 3 G (aR G G G (((((xs.getD i 0)*f)+c)%4294967296:Nat):Int) (kV (a:=((xs.getD i 0)*f)+c) (b:=4294967296) G G) (bK G G G bS bM i G ⟨h,i,none⟩ (dN _ _) ?_)))))))))))
  have F:=hb
  refine d6 G G G bM G F (gL (by rw [hl];omega)) G ((l.set i ((((xs.getD i 0)*f)+c)%4294967296)).map bC) (dP _ _ _) fun U H M _=>?_
  have p:=M.ext e o
  refine a1 (a6 (mv 1 G (aR G G G (((((xs.getD i 0)*f)+c)/4294967296:Nat):Int) (kB (a:=((xs.getD i 0)*f)+c) (b:=4294967296) G G) (mv 1 G (aS (bG (aC (a6 (mv 1 G (aR G G G ((i+1:Nat):Int) (bN (a:=i) (b:=1) G G) (mv 1 G (aS (bW (⟨U,i+1,_,_⟩:a0×Nat×Nat×List Nat) ⟨p,(by omega),(by omega),H,(iR (l:=l) (hl)),iF r _ (hx:=(fV _ (by decide))),NY (by omega) (by omega) hv,(Rd.updL L M V)⟩ (show n-(i+1)<n-i by omega) G ⟨rfl,rfl,rfl,rfl,rfl,up⟩)))))))))))))
 ·refine a6 (mv 2 G (pu (v:= a9 n) G (aA G G G false (cW (a:=i) (b:=n) G G) (a1 (aN G (cN (cI (cL (cM (aC (a7 ?_)))))))))))
  obtain rfl:n=i:=by omega
  refine a6 (mv 2 G (pu (v:= a9 n) G (mv 1 G (bK G G G bS bM n G ⟨h,n,none⟩ (dN _ _) ?_))))
  have E:=hb
  refine d6 G G G bM G E (gL (by rw [hl];omega)) G ((l.set n c).map bC) (dP _ _ _) fun _ D Y _=>?_
  have p:=Y.ext e o
  refine a1 (sr (mv 2 G (a1 (aU (aT [i9 (some ⟨h,0,none⟩) (n+1) (n+1)] G ⟨rfl,up⟩ (⟨_,rfl,⟨_,_,rfl,o,D,(iR (l:=l) (hl)),iF r _,?_⟩,p⟩))))))
  have h2:=nR 4294967296 (l:=l) (i:=n) (by omega) c
  rw [List.take_of_length_le (by rw [List.length_set];omega)] at h2
  rw [h2,hv,List.take_of_length_le (by omega)]
end
end Go.Proofs.YtkepckmdjncehaaGreatDoor
