/- A part of the claim: see its last text. -/
import Derived.Test.YtfemlajeomohhaaGreatDoorUK02

set_option maxRecDepth 100000
set_option maxHeartbeats 16000000
namespace Go.Proofs.YtfemlajeomohhaaGreatDoor
open Go Go.RowKit
theorem Ep {P:Program} {K:TypeId} {kd:IntKind} (hk:P.underlying K=some (.int kd)) (e:Bool) (n:Nat) (k:Int) (w:World) :
    (Instr.checkKey e (n+1) K (.int kd k)).run P w=.ok () w:=by
 unfold Instr.checkKey
 simp[Sem.run_bind,run_underlying hk]
theorem EA {P:Program} {K:TypeId} (hk:P.underlying K=some (.int .i64)) (k:Int) (es:List MapEntry) {r:Option (Nat×Value)} (hf:Instr.findNow (.int .i64) (.int .i64 k) es 0=some r) (w:World) :
    (Instr.findKey K (.int .i64 k) es).run P w=.ok r w:=by
 unfold Instr.findKey
 simp[Sem.run_bind,run_underlying hk,hf]
theorem EI{P:Program}{w:World}{r:Nat}{es:Array MapEntry}{c:Nat}(h:w.heap[r]? = some (.map es c)):(getObj r).run P w=.ok (.map es c) w:=by simp[getObj,Sem.run,h]
theorem OX {P:Program} {w:World} {es:Array MapEntry} {c:Nat} (o:Obj):(setObj w.heap.size o).run P (w.alloc (.map es c))=.ok () (w.alloc o):=by
 have hg:(w.alloc (.map es c)).heap[w.heap.size]? = some (.map es c):=heap_alloc_new w _
 simp only[setObj,Sem.run,hg]
 have:(w.alloc (.map es c)).heap.setIfInBounds w.heap.size o=(w.alloc o).heap:=by
  show(w.heap.push (.map es c)).setIfInBounds w.heap.size o=w.heap.push o
  apply Array.ext'
  simp
 rw[this];rfl
theorem K9 {P:Program} {w:World} {t K E:TypeId} {es:Array MapEntry} {c:Nat} {k:Int} {v:Value}
    (ht:P.underlying t=some (.map K E)) (hk:P.underlying K=some (.int .i64)) (hf:Instr.findNow (.int .i64) (.int .i64 k) es.toList 0=some none) :
    (Instr.mapUpdate t (.map (some w.heap.size)) (.int .i64 k) v).run P (w.alloc (.map es c))=.ok () (w.alloc (.map (es.push { key:=.int .i64 k,val:=v,born:=c }) (c+1))):=by
 have hg:(w.alloc (.map es c)).heap[w.heap.size]? = some (.map es c):=heap_alloc_new w _
 unfold Instr.mapUpdate
 simp[Sem.run_bind,run_underlying ht,EI hg,Ep hk,EA hk k es.toList hf,OX]
def Fy(o:Option (Nat×Value))(z:Value):Value×Bool:=match o with|some (_,x)=>(x,true)|none=>(z,false)
theorem Ak {P:Program} {w:World} {t K E:TypeId} {r:Nat} {es:Array MapEntry} {c:Nat} {k:Int} {v z:Value} {b:Bool} {o:Option (Nat×Value)}
    (ht:P.underlying t=some (.map K E)) (hk:P.underlying K=some (.int .i64)) (hz:(zeroValue E).run P w=.ok z w) (hg:w.heap[r]? = some (.map es c))
    (hf:Instr.findNow (.int .i64) (.int .i64 k) es.toList 0=some o) (hv:Fy o z=(v,b)) :
    (Instr.lookup t (.map (some r)) (.int .i64 k) true).run P w=.ok (.tuple #[v,.bool b]) w:=by
 unfold Instr.lookup
 simp[Sem.run_bind,run_underlying ht,EI hg,Ep hk,EA hk k es.toList hf]
 cases o with
 | none=>simp[Fy] at hv;simp[hz,hv]
 | some x=>simp[Fy] at hv;simp[hv]
theorem DF {P:Program} {ops:Array Oper} {rest:List Oper} {o:Oper} {a:Act} {Q:Exit→Act→World→Prop} {w w0:World} (hgd:o.guard=none) (hd:o.dst=none) (t:TypeId) (m k v:Operand)
    (ho:o.op=.insert t m k v) {K E:TypeId} (ht:P.underlying t=some (.map K E)) (hk:P.underlying K=some (.int .i64)) {es:Array MapEntry} {c:Nat} {kk:Int} {vv:Value}
    {r:Nat} (hw:w=w0.alloc (.map es c)) (hm:a.eval m=.map (some r)) (hr:r=w0.heap.size) (hkv:a.eval k=.int .i64 kk) (hv:a.eval v=vv) (hf:Instr.findNow (.int .i64) (.int .i64 kk) es.toList 0=some none)
    (h:wpList P ops Q rest a (w0.alloc (.map (es.push { key:=.int .i64 kk,val:=vv,born:=c }) (c+1)))):wpList P ops Q (o :: rest) a w :=
 wpList_plain hgd fun K' hK=>by
  subst hw
  subst hr
  unfold Oper.wp execOp
  simp only[ho,hm,hkv,hv,Sem.run_bind,K9 ht hk hf,Result.andThen_ok,Sem.run_pure,Oper.upon_skip,hd]
  exact hK _ _ h
theorem Db {P:Program} {w:World} {t K E:TypeId} {r:Nat} {es:Array MapEntry} {c:Nat} {k:Int} {v z:Value} {b:Bool} {o:Option (Nat×Value)}
    (ht:P.underlying t=some (.map K E)) (hk:P.underlying K=some (.int .i64)) (hz:(zeroValue E).run P w=.ok z w) (hg:w.heap[r]? = some (.map es c))
    (hf:Instr.findNow (.int .i64) (.int .i64 k) es.toList 0=some o) (hv:Fy o z=(v,b)) :
    (Instr.lookup t (.map (some r)) (.int .i64 k) false).run P w=.ok v w:=by
 unfold Instr.lookup
 simp[Sem.run_bind,run_underlying ht,EI hg,Ep hk,EA hk k es.toList hf]
 cases o with
 | none=>simp[Fy] at hv;simp[hz,hv]
 | some x=>simp[Fy] at hv;simp[hv]
def BR(f:Nat→Value)(n:Nat):Array MapEntry:=((List.range n).map fun(k:Nat)=>({ key:=.int .i64 (k:Int),val:=f k,born:=k }:MapEntry)).toArray
theorem LP (f:Nat→Value) (n:Nat):(BR f n).push { key:=.int .i64 (n:Int),val:=f n,born:=n } = BR f (n+1):=by
 simp[BR,List.range_succ]
theorem IG {k m:Int} (h:k≠m):Instr.sameNow (.int .i64) (.int .i64 k) (.int .i64 m)=some false:=by
 have:(k == m)=false:=by simpa using h
 simp[Instr.sameNow,this]
theorem Eu {k:Int}:∀ (l:List MapEntry) (i:Nat),(∀ e∈l,∃ m:Int,e.key=.int .i64 m∧k≠m)→Instr.findNow (.int .i64) (.int .i64 k) l i=some none
 | [],_,_=>rfl
 | e :: l,i,h=>by
   obtain⟨m,hm,hne⟩:=h e (by simp)
   unfold Instr.findNow
   rw[hm,IG hne]
   exact Eu l (i+1) fun e' he'=>h e' (by simp[he'])
theorem Ik {k:Int} {v:Value}:∀ (l:List MapEntry) (i j:Nat) (hj:j<l.length),l[j].key=.int .i64 k→l[j].val=v→(∀ x (hx:x<l.length),x<j→∃ m:Int,l[x].key=.int .i64 m∧k≠m) →
    Instr.findNow (.int .i64) (.int .i64 k) l i=some (some (i+j,v))
 | [],_,j,hj,_,_,_=>absurd hj (by simp)
 | e :: l,i,0,hj,hk,hv,_=>by
   unfold Instr.findNow
   simp at hk hv
   simp[Instr.sameNow,hk,hv]
 | e :: l,i,j+1,hj,hk,hv,hb=>by
   obtain⟨m,hm,hne⟩:=hb 0 (by simp) (by omega)
   simp at hm
   unfold Instr.findNow
   rw[hm,IG hne]
   have:=Ik (v:=v) l (i+1) j (by simpa using hj) (by simpa using hk) (by simpa using hv) fun x hx hlt=>by
    have:=hb (x+1) (by simpa using hx) (by omega)
    simp only[List.getElem_cons_succ] at this
    exact this
   rw[show i+(j+1)=i+1+j by omega]
   exact this
theorem IU (f:Nat→Value) (n:Nat):Instr.findNow (.int .i64) (.int .i64 (n:Int)) (BR f n).toList 0=some none:=by
 refine Eu _ _ fun e he=>?_
 simp[BR] at he
 obtain⟨m,hm,rfl⟩:=he
 exact⟨m,rfl,by omega⟩
theorem Gd (f:Nat→Value) (n:Nat) (k:Int):Instr.findNow (.int .i64) (.int .i64 k) (BR f n).toList 0=some (if 0≤k∧k<n then some (k.toNat,f k.toNat) else none):=by
 split
 · rename_i h
   obtain⟨m,rfl⟩:∃ m:Nat,k=m:=⟨k.toNat,by omega⟩
   rw[Ik (v:=f m) _ 0 m (by simp[BR];omega) (by simp[BR]) (by simp[BR]) fun x hx hlt=>⟨x,by simp[BR],by omega⟩]
   simp
 · rename_i h
   refine Eu _ _ fun e he=>?_
   simp[BR] at he
   obtain⟨m,hm,rfl⟩:=he
   exact⟨m,rfl,by omega⟩
theorem Df {P:Program} {ops:Array Oper} {rest:List Oper} {o:Oper} {a:Act} {Q:Exit→Act→World→Prop} {w w0:World} (hgd:o.guard=none) (hd:o.dst=none) (t:TypeId) (m k v:Operand)
    (ho:o.op=.insert t m k v) {K E:TypeId} (ht:P.underlying t=some (.map K E)) (hk:P.underlying K=some (.int .i64)) (f:Nat→Value) {n:Nat} {kk:Int} {r:Nat} (hw:w=w0.alloc (.map (BR f n) n)) (hr:r=w0.heap.size)
    (hm:a.eval m=.map (some r)) (hkv:a.eval k=.int .i64 kk) (hkn:kk=(n:Int)) (hv:a.eval v=f n)
    (h:wpList P ops Q rest a (w0.alloc (.map (BR f (n+1)) (n+1)))):wpList P ops Q (o :: rest) a w:=by
 subst hkn
 refine DF hgd hd t m k v ho ht hk hw hm hr hkv hv (IU f n) ?_
 rw[LP];exact h
end Go.Proofs.YtfemlajeomohhaaGreatDoor
namespace Go.Proofs.YtfemlajeomohhaaGreatDoor
open Go
theorem H7 (m:AC) (by_ mc:Int):BN m by_ mc=0∨(1≤BN m by_ mc∧BN m by_ mc≤AZ m by_):=by
 unfold BN
 split
 · rename_i h
   simp only[AP,Bool.and_eq_true,decide_eq_true_eq] at h
   exact .inr h.2
 · exact .inl rfl
theorem Cw (m:AC) (by_:Int):0≤AZ m by_:=by
 unfold AZ
 repeat' split
 all_goals omega
def Ag (m:AC) (by_:Int) (l:List Int):List Int :=
 (List.range (AZ m by_).toNat).map fun(d:Nat)=>((l.filter fun k=>decide (BN m by_ k=(d:Int)+1)).length:Int)
theorem Dc(m:AC)(p:AA)(item by_:Int):BU m p item by_=Ag m by_ (Af p item 0):=rfl
theorem DL(m:AC)(by_:Int)(l:List Int):(Ag m by_ l).length=(AZ m by_).toNat:=by simp[Ag]
theorem Ha (m:AC) (by_:Int):Ag m by_ []=List.replicate (AZ m by_).toNat 0:=by
 unfold Ag
 apply List.ext_getElem <;> simp
theorem IM (m:AC) (by_:Int) (l:List Int) {x:Int} (h:BN m by_ x<1):Ag m by_ (l ++ [x])=Ag m by_ l:=by
 unfold Ag
 apply List.map_congr_left
 intro d _
 rw[List.filter_append]
 have:decide (BN m by_ x=(d:Int)+1)=false:=by simp;omega
 simp[this]
theorem Hd (m:AC) (by_:Int) (l:List Int) {x:Int} {d:Nat} (h:BN m by_ x=(d:Int)+1) (hd:d<(Ag m by_ l).length):Ag m by_ (l ++ [x])=(Ag m by_ l).set d ((Ag m by_ l)[d]+1):=by
 apply List.ext_getElem
 · simp[Ag]
 · intro i h1 h2
   rw[List.getElem_set]
   split
   · rename_i e
     subst e
     simp[Ag,List.filter_append,h]
   · rename_i e
     have:decide (BN m by_ x=(i:Int)+1)=false:=by simp;omega
     simp[Ag,List.filter_append,this]
theorem IL (m:AC) (by_:Int) (l:List Int) {d:Nat} (hd:d<(Ag m by_ l).length):0≤(Ag m by_ l)[d]∧(Ag m by_ l)[d]≤l.length:=by
 simp only[Ag,List.getElem_map,List.getElem_range]
 have:=List.length_filter_le (fun k=>decide (BN m by_ k=(d:Int)+1)) l
 omega
theorem Bu (p:AA) (item st:Int):(Af p item st).length≤(AQ p item).length:=by
 unfold Af
 rw[List.length_map]
 exact List.length_filter_le _ _
theorem Gp(m:AC)(p:AA)(f:Int×Int)(item:Int):(Bo m p f item).length≤(Af p item 0).length:=List.length_filter_le _ _
end Go.Proofs.YtfemlajeomohhaaGreatDoor
