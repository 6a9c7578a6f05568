/- Parts of the proof: MIdx MDel -/
import Derived.Test.YtccekmeifanipaaGreatT18
import Derived.ArgAppend
import Derived.Test.YtccekmeifanipaaGreatT13
namespace Go.Proofs.YtccekmeifanipaaGreat
set_option linter.unusedVariables false
set_option linter.unusedSimpArgs false
set_option linter.unusedSectionVars false
section
open Go.RowKit
set_option maxRecDepth 20000 in
set_option maxHeartbeats 4000000 in
theorem MK (base b:Nat) (s:Aa) (cm:Bool) (w:World) (hM:Az base w b s cm) (hJ:s.jobs.length≤1048576) (hA:s.allocs.length≤67108864) :
  Calls Tryz.prog 108 #[.slice s.AA s.nA s.cA,.func (.func 109) #[.pointer (some ⟨b,0,none⟩)] #[]] w fun e w'=>e=.returned (.int .i64 (CO (fun a=>!Fsm.Cf s.data.jobs a) s.allocs))∧Ext Nothing w w':=by
 have hlen:=Lib.hid hM.own.al
 have hl:=hM.own.slA
 have hn:s.nA≤67108864:=by have:=hM.own.al;omega
 go_enter Tryz.func108,Tryz.ntmps108
 go_wp2
 go_loopw [8] (fun c wr=>∃ k:Nat,k≤s.nA∧c=.int .i64 k∧(∀ i' < k,∀ y,s.allocs[i']? = some y→(fun a=>!Fsm.Cf s.data.jobs a) y=false)∧Ext Nothing w wr) (fun i _=>s.nA - (intOf i).toNat)
 case atStart=>exact ⟨0,Nat.zero_le _,rfl,fun j hj=>absurd hj (by omega),Ext.refl _ _⟩
 case round =>
  obtain ⟨k,hk,rfl,hno,hx⟩:=hrel
  by_cases hlt:k < s.nA
  ·obtain ⟨hjn,a,off,hAe,hce⟩:=hl.get hx hlt
   have hy:s.allocs[k]? = some s.allocs[k]:=List.getElem?_eq_getElem hjn
   have hce:∀ j u,(Ac.cells s.allocs[k])[j]? = some u→wr.cell? ⟨a,off+k*11+j,none⟩=some u:=hce
   generalize s.allocs[k]=x at hce hy
   have hce:∀ j u,(#[.int .i64 x.id,.int .i64 x.job,.int .i64 x.ver,.int .i64 x.group,.int .i64 x.index,.int .i64 x.node,.int .i64 x.epoch,.int .i64 x.ask.cpu,.int .i64 x.ask.mem,.bool x.stop,.int .i64 x.state]:Array Value).toList[j]? = some u→wr.cell? ⟨a,off+k*11+j,none⟩=some u:=hce
   have HA:=Lib.hid (show s.AA=some ⟨a,off,none⟩ from hAe)
   have hk0:(0:Int)≤(k:Int):=by omega
   have hk1:(k:Int) < s.nA:=by omega
   rw [show s.AA=some ⟨a,off,none⟩ from hAe]
   have HT:=Lib.hid hlt
   clear hAe hlt
   cases hp:(fun a=>!Fsm.Cf s.data.jobs a) x with
   | true =>
    have hr:=Lib.hid (Dz (p:=(fun a=>!Fsm.Cf s.data.jobs a)) hno hy hp)
    have hp':=Lib.hid (show (!Fsm.Cf s.data.jobs x)=true from hp)
    clear hno hy hp
    go_wp2_with (first|go_skip|go_guarded|((with_reducible refine isW ?_);refine Ad rfl 55 _ rfl Ba a (off+k*11) rfl #[.int .i64 x.id,.int .i64 x.job,.int .i64 x.ver,.int .i64 x.group,.int .i64 x.index,.int .i64 x.node,.int .i64 x.epoch,.int .i64 x.ask.cpu,.int .i64 x.ask.mem,.bool x.stop,.int .i64 x.state] hce rfl ?_)|(go_at_call 109;(with_reducible refine (Ib base b s cm x wr (hM.e0 hx) hJ).mono ?_);rintro e w' ⟨rfl,hx1⟩;(rw [hp'.out])))
    go_ret
    exact ⟨by rw [hr.out];rfl,hx.tr hx1⟩
   | false =>
    have HN:=Lib.hid (show ∀ i' < k+1,∀ y,s.allocs[i']? = some y→(fun a=>!Fsm.Cf s.data.jobs a) y=false from fun i hi y hy'=>by
     by_cases h:i=k
     ·subst h;rw [hy] at hy';cases hy';exact hp
     exact hno i (by omega) y hy')
    have hp':=Lib.hid (show (!Fsm.Cf s.data.jobs x)=false from hp)
    clear hno hy hp
    go_wp2_with (first|go_skip|go_guarded|((with_reducible refine isW ?_);refine Ad rfl 55 _ rfl Ba a (off+k*11) rfl #[.int .i64 x.id,.int .i64 x.job,.int .i64 x.ver,.int .i64 x.group,.int .i64 x.index,.int .i64 x.node,.int .i64 x.epoch,.int .i64 x.ask.cpu,.int .i64 x.ask.mem,.bool x.stop,.int .i64 x.state] hce rfl ?_)|(go_at_call 109;(with_reducible refine (Ib base b s cm x wr (hM.e0 hx) hJ).mono ?_);rintro e w' ⟨rfl,hx1⟩;(rw [hp'.out])))
    go_roundw
    case rel=>(try rw [← HA.out]);exact ⟨k+1,HT.out,by go_num,HN.out,hx.tr hx1⟩
    case measure=>have:=HT.out;simp [intOf];omega
  have hr:=Lib.hid (CZ (p:=(fun a=>!Fsm.Cf s.data.jobs a)) (l:=s.allocs) (fun i hi y hy=>hno i (by have:=hlen.out;omega) y hy))
  have hnl:¬ ((k:Int) < s.nA):=by omega
  clear hno
  go_wp2
  go_ret
  exact ⟨by rw [hr.out];rfl,hx⟩
end
section
open Go.RowKit
section
variable {P:Program} {w:World} {ρ:Operand→Value} {o:Oper}
theorem ED {t:TypeId} {x:Operand} {lo hi mx:Option Operand} (ho:o.op=.slice t x lo hi mx) {e sz:Nat} (E:Bg P t e sz) {A:Option Addr} {n c:Nat} (hx:ρ x=.slice A n c) {v:Value} (h:(Instr.slice t (.slice A n c) (lo.map ρ) (hi.map ρ) (mx.map ρ)).run P w=.ok v w):(execOp ρ o).run P w=.ok (.value v) w:=by
 have ht' : P.underlying t=some (.slice (P.elem t)):=by simp [Program.elem,E.under]
 simp only [execOp,ho]
 simp only [Sem.run_bind,Sem.run_map,hx,run_sliceAt_slice _ _ _ _ _ _ ht',h,Result.andThen]
 try rfl
theorem Ev {t e sz:Nat} (E:Bg P t e sz):P.underlying t=some (.slice (P.elem t))∧∀ w,(Go.sizeOf (P.elem t)).run P w=.ok sz w:=by
 obtain ⟨ht,i',z,hi',hz,hzs,hsz,h0,hle,hby⟩:=E
 have he:P.elem t=e:=by simp [Program.elem,ht]
 refine ⟨by simp [Program.elem,ht],fun w=>?_⟩
 rw [he]
 simp [sizeOf,typeInfo,hi',hsz]
theorem QW {t e sz:Nat} (E:Bg P t e sz) {b n c k:Nat} (hk:k≤c):(Instr.slice t (.slice (some ⟨b,0,none⟩) n c) none (some (.int .i64 (k:Int))) none).run P w=.ok (.slice (some ⟨b,0,none⟩) k c) w:=by
 obtain ⟨ht,hs⟩:=Ev E
 rw [run_slice_h w t _ _ _ ht .i64 (k:Int) (Int.natCast_nonneg k) (Int.ofNat_le.2 hk),hs]
 simp [Result.andThen,sliced,Addr.add]
theorem Rb {t e sz:Nat} (E:Bg P t e sz) {b n c k:Nat} (hk:k≤n) (hc:n≤c):∃ a' : Addr,(n - k=0 ∨ a' = ⟨b,k*sz,none⟩)∧∀ w:World,(Instr.slice t (.slice (some ⟨b,0,none⟩) n c) (some (.int .i64 (k:Int))) none none).run P w=.ok (.slice (some a') (n - k) (c - k)) w:=by
 obtain ⟨ht,hs⟩:=Ev E
 refine ⟨if c=k then ⟨b,0,none⟩ else ⟨b,k*sz,none⟩,?_,fun w=>?_⟩
 ·by_cases e1:c=k
  ·exact .inl (by omega)
  exact .inr (by simp [e1])
 rw [run_slice_l w t _ _ _ ht .i64 (k:Int) (Int.natCast_nonneg k) (Int.ofNat_le.2 hk),hs]
 by_cases e1:c=k
 ·subst e1;simp [Result.andThen,sliced]
 by_cases e2:k=0
 ·subst e2;simp [Result.andThen,sliced,e1,Addr.add]
 simp [Result.andThen,sliced,e1,Addr.add,e2]
 try exact fun h=>h.symm
theorem Qu {t e sz:Nat} (E:Bg P t e sz) {b n c k m:Nat} (hk:k≤m) (hm:m≤c) (hkc:k < c):(Instr.slice t (.slice (some ⟨b,0,none⟩) n c) (some (.int .i64 (k:Int))) (some (.int .i64 (m:Int))) none).run P w=.ok (.slice (some ⟨b,k*sz,none⟩) (m - k) (c - k)) w:=by
 obtain ⟨ht,hs⟩:=Ev E
 rw [run_slice_lh w t _ _ _ ht .i64 .i64 (k:Int) (m:Int) (Int.natCast_nonneg k) (Int.ofNat_le.2 hk) (Int.ofNat_le.2 hm),hs]
 by_cases e2:k=0
 ·subst e2;simp [Result.andThen,sliced,Addr.add]
 simp [Result.andThen,sliced,Addr.add,e2,show ¬ c=k by omega]
 try exact fun h=>h.symm
theorem PP {t e sz:Nat} (E:Bg P t e sz) {b n c k m x:Nat} (hk:k≤m) (hm:m≤x) (hx:x≤c) (hkx:k < x):(Instr.slice t (.slice (some ⟨b,0,none⟩) n c) (some (.int .i64 (k:Int))) (some (.int .i64 (m:Int))) (some (.int .i64 (x:Int)))).run P w=.ok (.slice (some ⟨b,k*sz,none⟩) (m - k) (x - k)) w:=by
 obtain ⟨ht,hs⟩:=Ev E
 rw [run_slice_lhm w t _ _ _ ht .i64 .i64 .i64 (k:Int) (m:Int) (x:Int) (Int.natCast_nonneg k) (Int.ofNat_le.2 hk) (Int.ofNat_le.2 hm) (Int.ofNat_le.2 hx),hs]
 by_cases e2:k=0
 ·subst e2;simp [Result.andThen,sliced,Addr.add]
 simp [Result.andThen,sliced,Addr.add,e2,show ¬ x=k by omega]
 try exact fun h=>h.symm
theorem Kb {t e sz:Nat} (E:Bg P t e sz) (hz1:((P.info? e).bind (·.zero)).map (fun z=>z.cells.toList.all Value.oneCell')=some true) {b off n c:Nat} (hn:0 < n) (hc:∀ j,j < n*sz→(w.cell? ⟨b,off+j,none⟩).isSome=true) (hf:∀ j,j < n*sz→w.frozen? ⟨b,off+j,none⟩=false) (ty:TypeId) :
  ∃ vs:List Value,vs.length=n*sz∧(Builtin.clear_ #[t] ty #[.slice (some ⟨b,off,none⟩) n c]).run P w=.ok (.tuple #[]) (w.setCells b off vs):=by
 obtain ⟨ht,i,z,hi,hz,hzs,hsz,h0,hle,hby⟩:=E
 refine ⟨(Builtin.zeroCells z.cells n).toList,by simp [Builtin.zeroCells,hzs],?_⟩
 have hv:(zeroValue e).run P w=.ok z w:=by simp [zeroValue,typeInfo,hi,hz,Result.andThen]
 have hall:z.cells.toList.all Value.oneCell' = true:=by rw [hi] at hz1;simpa [hz] using hz1
 have hst:=run_storeCells_cells (P:=P) b off (Builtin.zeroCells z.cells n).toList 0 w (by simpa [Builtin.zeroCells,hzs] using hc) (by simpa [Builtin.zeroCells,hzs] using hf) (fun u hu=>by
  simp only [Builtin.zeroCells,Array.toList_map,List.mem_map] at hu
  obtain ⟨j,_,rfl⟩:=hu
  have hlt:j % z.cells.size < z.cells.size:=Nat.mod_lt _ (by omega)
  rw [getElem!_pos z.cells _ hlt]
  exact List.all_eq_true.1 hall _ (by simp))
 simp only [Nat.add_zero] at hst
 obtain ⟨m,rfl⟩ : ∃ m,n=m+1:=⟨n - 1,by omega⟩
 simp [Builtin.clear_,run_underlying ht,hv,hst,Result.andThen]
end
theorem Ji {P:Program} {w:World} {ρ:Operand→Value} {o:Oper} {t e sz:Nat} {x y:Operand} (ho:o.op=.call { callee:=.builtin .append,args:=#[x,y],argTypes:=#[t,t] }) (E:Bg P t e sz) {g k c:Nat} {a1:Addr} {m c2:Nat} {news:List Value} (hx:ρ x=.slice (some ⟨g,0,none⟩) k c) (hy:ρ y=.slice (some a1) m c2)
  (hl:news.length=m*sz) (hn:∀ j u,news[j]? = some u→w.cell? (a1.add j)=some u) (h1:∀ u∈news,u.oneCell' = true) (hroom:k+m≤c) {ty:TypeId} {cs:Array Value} (hB:Blk w g ty cs) (hfit:k*sz+news.length≤cs.size) :
  (execOp ρ o).run P w=.ok (.value (.slice (some ⟨g,0,none⟩) (k+m) c)) (w.setCells g (k*sz) news):=by
 obtain ⟨ht,i,z,hi,hz,hzs,hsz,h0,hle,hby⟩:=E
 subst hsz
 obtain ⟨d,op,ty',ps,af,gd⟩:=o
 change op=_ at ho
 subst ho
 have h:=run_append_room_cells (P:=P) (w:=w) (ty:=ty') t e i ht hi g 0 k c a1 m c2 news hl hn h1 hroom (fun j hj=>by rw [Nat.zero_add,hB.cell,Array.getElem?_eq_getElem (by omega)];rfl) (fun j hj=>hB.frozen _)
 rw [Nat.zero_add] at h
 rw [BigFrame.execOp_builtin,BigFrame.builtin_append]
 simp [hx,hy,h,Result.andThen]
section
variable {P:Program} {w:World} {ops:Array Oper} {rest:List Oper} {o:Oper} {a:Act} {Q:Exit→Act→World→Prop}
theorem Jo (hgd:o.guard=none) (x:Operand) (t:TypeId) (ho:o.op=.call { callee:=.builtin .clear,args:=#[x],argTypes:=#[t] }) {v:Value} (hx:a.eval x=v) {w' : World} (hr:∀ ty,(Builtin.clear_ #[t] ty #[v]).run P w=.ok (.tuple #[]) w') (h:wpList P ops Q rest (a.put o.dst (.tuple #[])) w'):wpList P ops Q (o :: rest) a w:=by
 refine wpList_plain hgd fun K hK=>?_
 have hr2:(execOp a.eval o).run P w=.ok (.value (.tuple #[])) w':=by
  obtain ⟨d,op,ty,ps,af,g⟩:=o
  change op=_ at ho
  subst ho
  rw [BigFrame.execOp_builtin,BigFrame.builtin_clear]
  simp [hx,hr,Result.andThen]
 unfold Oper.wp
 rw [hr2]
 exact hK _ _ h
theorem JP (hgd:o.guard=none) {t:TypeId} {x:Operand} {lo hi mx:Option Operand} (ho:o.op=.slice t x lo hi mx) {e sz:Nat} (E:Bg P t e sz) {A:Option Addr} {n c:Nat} (hx:a.eval x=.slice A n c) {v:Value} (hr:(Instr.slice t (.slice A n c) (lo.map a.eval) (hi.map a.eval) (mx.map a.eval)).run P w=.ok v w) (h:wpList P ops Q rest (a.put o.dst v) w):wpList P ops Q (o :: rest) a w:=by
 refine wpList_plain hgd fun K hK=>?_
 unfold Oper.wp
 rw [ED ho E hx hr]
 exact hK _ _ h
end
theorem JL {α:Type} {f:α→List Value} {sz:Nat} (hf:∀ x,(f x).length=sz):∀ (l:List α) (k:Nat),(l.flatMap f).drop (k*sz)=(l.drop k).flatMap f
 | [],k=>by simp
 | x :: l,0=>by simp
 | x :: l,k+1=>by
  rw [List.flatMap_cons,List.drop_succ_cons,← JL hf l k,List.drop_append,hf,show (k+1)*sz - sz=k*sz by rw [Nat.add_mul];omega,List.drop_of_length_le (by rw [hf,Nat.add_mul];omega)]
  rfl
theorem JQ {α:Type} {f:α→List Value} {sz:Nat} (hf:∀ x,(f x).length=sz):∀ (l:List α) (k:Nat),(l.flatMap f).take (k*sz)=(l.take k).flatMap f
 | [],k=>by simp
 | x :: l,0=>by simp
 | x :: l,k+1=>by
  rw [List.flatMap_cons,List.take_succ_cons,List.flatMap_cons,← JQ hf l k,List.take_append,hf,show (k+1)*sz - sz=k*sz by rw [Nat.add_mul];omega,List.take_of_length_le (by rw [hf,Nat.add_mul];omega)]
theorem PH {f:Ac→List Value} {sz:Nat} (hf:∀ x,(f x).length=sz) {l:List Ac} {c k:Nat} {cur c1 c2:List Value} {vs:List Value} (hk:k < l.length) (hlen:cur.length=c*sz) (hc:l.length≤c) (ht:cur.take (l.length*sz)=l.flatMap f)
  (h1:c1=cur.take (k*sz) ++ (l.drop (k+1)).flatMap f ++ cur.drop (k*sz+((l.drop (k+1)).flatMap f).length)) (hv:vs.length=1*sz) (h2:c2=c1.take ((l.length - 1)*sz) ++ vs ++ c1.drop ((l.length - 1)*sz+vs.length)) :
  c2.take ((l.length - 1)*sz)=(l.eraseIdx k).flatMap f:=by
 have hd:((l.drop (k+1)).flatMap f).length=(l.length - (k+1))*sz:=by rw [BQ hf,List.length_drop]
 have e1:cur.take (k*sz)=(l.take k).flatMap f:=by
  rw [← JQ hf,← ht,List.take_take,Nat.min_eq_left (Nat.mul_le_mul_right _ (by omega))]
 have hl1:(cur.take (k*sz) ++ (l.drop (k+1)).flatMap f).length=(l.length - 1)*sz:=by
  rw [List.length_append,e1,BQ hf,hd,List.length_take,Nat.min_eq_left (by omega),← Nat.add_mul]
  exact congrArg (· * sz) (by omega)
 have hcl:(l.length - 1)*sz≤c1.length:=by
  rw [h1,List.length_append,hl1];omega
 rw [h2,List.append_assoc,List.take_append,List.length_take,Nat.min_eq_left hcl,Nat.sub_self,List.take_zero,List.append_nil,List.take_take,Nat.min_self]
 rw [h1,List.take_append,hl1,Nat.sub_self,List.take_zero,List.append_nil,List.take_of_length_le (by rw [hl1];exact Nat.le_refl _)]
 rw [e1,List.eraseIdx_eq_take_drop_succ,List.flatMap_append]
set_option maxRecDepth 20000 in
set_option maxHeartbeats 4000000 in
theorem O1 (base:Nat) (A:Option Addr) (c:Nat) (l:List Ac) (k:Nat) (w:World) (hk:k < l.length) (hl:l.length≤67108862) (h:w.ownsRow base 55 11 (.slice A l.length c) l.length (l.flatMap Ac.cells)) :
  Calls Tryz.prog 110 #[.slice A l.length c,.int .i64 (k:Int),.int .i64 ((k:Int)+1)] w fun e w'=>e=.returned (.slice A (l.length - 1:Nat) c)∧w'.ownsRow base 55 11 (.slice A (l.length - 1) c) (l.length - 1) ((l.eraseIdx k).flatMap Ac.cells)∧Ext (fun q=>(Value.slice A l.length c).ownBlock=some q) w w':=by
 obtain ⟨g,cur,hAe,hbg,hg,hcs,hcap,hmax,htk,_⟩:=DR (i:=k) (f:=Ac.cells) (fun _=>rfl) h hk
 subst hAe
 have hsl:=Sl.Bd (f:=Ac.cells) (sz:=11) (fun _=>rfl) h rfl
 have hk1:k+1≤l.length:=hk
 have hkc:k < c:=by omega
 have hk0:((k:Int) == (k:Int)+1)=false:=by simp;omega
 obtain ⟨a1,hA1,hr1⟩:=Rb (P:=Tryz.prog) SRAlloc (b:=g) (n:=l.length) (c:=c) (k:=k+1) hk1 hcap
 have hnews:∀ j u,((l.drop (k+1)).flatMap Ac.cells)[j]? = some u→w.cell? ⟨g,(k+1)*11+j,none⟩=some u:=fun j u hj=>by
  have e:=JL (f:=Ac.cells) (sz:=11) (fun _=>rfl) l (k+1)
  rw [← e,List.getElem?_drop,← htk,List.getElem?_take] at hj
  rw [hg.cell]
  split at hj
  ·simpa using hj
  simp at hj
 have hnl:((l.drop (k+1)).flatMap Ac.cells).length=(l.length - (k+1))*11:=by rw [BQ (f:=Ac.cells) (sz:=11) (fun _=>rfl),List.length_drop]
 have hone:∀ u∈(l.drop (k+1)).flatMap Ac.cells,u.oneCell' = true:=fun u hu=>by
  obtain ⟨x,_,hx⟩:=List.mem_flatMap.1 hu
  exact List.all_eq_true.1 (show (Ac.cells x).all Value.oneCell' = true from rfl) u hx
 have hfit:k*11+((l.drop (k+1)).flatMap Ac.cells).length≤cur.size:=by rw [hnl,hcs];omega
 have hsrc:∀ (W:World),Ext Nothing w W→∀ j u,((l.drop (k+1)).flatMap Ac.cells)[j]? = some u→W.cell? (a1.add j)=some u:=fun W hW j u hj=>by
  rcases hA1 with e|e
  ·rw [List.length_eq_zero_iff.1 (show ((l.drop (k+1)).flatMap Ac.cells).length=0 by rw [hnl,e])] at hj;simp at hj
  rw [e];have hadd:(⟨g,(k+1)*11,none⟩ : Addr).add j=⟨g,(k+1)*11+j,none⟩:=by unfold Addr.add;split <;> simp_all
  rw [hadd];exact hW.c0 (hnews j u hj)
 have hkn:k+(l.length - (k+1))=l.length - 1:=by omega
 have hcA:=Lib.hid hcap
 have HKN:=Lib.hid hkn
 have HNL:=Lib.hid hnl
 have HTK:=Lib.hid htk
 have HCS:=Lib.hid hcs
 have HFIT:=Lib.hid hfit
 have HN:=Lib.hid hnews
 have HONE:=Lib.hid hone
 have HSRC:=Lib.hid hsrc
 have HR1:=Lib.hid hr1
 have HMX:=Lib.hid hmax
 clear hkn hnl htk hcs hfit hnews hone hsrc hr1 hA1 hcap h hsl hmax
 go_enter Tryz.func110,Tryz.ntmps110
 go_upto_region 5 with (first|go_skip|go_guarded|((with_reducible refine isW ?_);refine JP rfl rfl SRAlloc rfl (PP SRAlloc (k:=k) (m:=k+1) (x:=l.length) (Nat.le_succ k) hk1 hcA.out hk) ?_))
 have hd:Ext Nothing w w.drew:=(Ext.refl _ _).drew
 refine zS (S:=fun W'=>Ext (fun q=>q=g) w W') (by kernel_rfl) ?_
 have hS:=hd.any (S:=fun q=>q=g)
 generalize w.drew=Wd at hd hS ⊢
 refine zV 0 (.slice (some ⟨g,0,none⟩) l.length c) rfl (by kernel_rfl) hS (fun _ _ _ h=>h) (fun W' hS'=>by go_simp) ?_
 refine zV 1 (.int .i64 (k:Int)) rfl (by kernel_rfl) hS (fun _ _ _ h=>h) (fun W' hS'=>by go_simp) ?_
 refine zV 2 (.slice (some ⟨g,0,none⟩) k c) rfl (by kernel_rfl) hS (fun _ _ _ h=>h) (fun W' hS'=>by exact ED rfl SRAlloc rfl (QW SRAlloc (Nat.le_of_lt hkc))) ?_
 refine zV 3 (.slice (some ⟨g,0,none⟩) l.length c) rfl (by kernel_rfl) hS (fun _ _ _ h=>h) (fun W' hS'=>by go_simp) ?_
 refine zV 4 (.int .i64 ((k:Int)+1)) rfl (by kernel_rfl) hS (fun _ _ _ h=>h) (fun W' hS'=>by go_simp) ?_
 refine zV 5 (.slice (some a1) (l.length - (k+1)) (c - (k+1))) rfl (by kernel_rfl) hS (fun _ _ _ h=>h) (fun W' hS'=>by exact ED rfl SRAlloc rfl (HR1.out _)) ?_
 (try simp only [Act.put,zA,zB,zC,zD,zE,zF])
 refine zO 6 (by kernel_rfl) ?_
 obtain ⟨cs1,hB1,hl1,hs1⟩:=Blk.setCells ((l.drop (k+1)).flatMap Ac.cells) (k*11) Wd cur (hg.e0 hd) HFIT.out
 have hsE:Ext (fun q=>q=g) Wd (Wd.setCells g (k*11) ((l.drop (k+1)).flatMap Ac.cells)):=Ext.setCells _ _ (Ext.refl _ _) (.inr rfl)
 refine wpOp_val (v:=.slice (some ⟨g,0,none⟩) (l.length - 1) c) (w':=Wd.setCells g (k*11) ((l.drop (k+1)).flatMap Ac.cells)) rfl (by rfl) (by rw [← HKN.out];exact Ji rfl SRAlloc rfl rfl HNL.out (HSRC.out Wd hd) HONE.out (by have:=HKN.out;have:=hcA.out;omega) (hg.e0 hd) HFIT.out) ⟨hS.trans hsE (fun q hq e=>e),?_⟩
 (try simp only [Act.put,zA,zB,zC,zD,zE,zF])
 generalize Wd.setCells g (k*11) ((l.drop (k+1)).flatMap Ac.cells)=W1 at hB1 hsE ⊢
 have hS1:=hS.trans hsE (fun q hq e=>e)
 refine zV 7 (.slice (some ⟨g,0,none⟩) (l.length - 1) c) rfl (by kernel_rfl) hS1 (fun _ _ _ h=>h) (fun W' hS'=>by go_simp) ?_
 (try simp only [Act.put,zA,zB,zC,zD,zE,zF])
 refine wpAnyH_done (by kernel_rfl) ?_ _
 (try simp only [Act.put,zA,zB,zC,zD,zE,zF])
 have hbig:(l.length - 1)*11+1*11≤cs1.size:=by rw [hs1,HCS.out];have:=hcA.out;omega
 obtain ⟨vs,hvs,hclr⟩:=Kb (P:=Tryz.prog) (w:=W1) SRAlloc (by kernel_rfl) (b:=g) (off:=(l.length - 1)*11) (n:=1) (c:=c - (l.length - 1)) (by omega) (fun j hj=>by rw [hB1.cell,Array.getElem?_eq_getElem (by omega)];rfl) (fun j hj=>hB1.frozen _) 0
 obtain ⟨cs2,hB2,hl2,hs2⟩:=Blk.setCells vs ((l.length - 1)*11) W1 cs1 hB1 (by rw [hvs];exact hbig)
 have hs2E:Ext (fun q=>q=g) W1 (W1.setCells g ((l.length - 1)*11) vs):=Ext.setCells _ _ (Ext.refl _ _) (.inr rfl)
 have hlen1:l.length - (l.length - 1)=1:=by omega
 have HCL:=Lib.hid (show ∀ ty,(Builtin.clear_ #[25] ty #[.slice (some ⟨g,(l.length - 1)*11,none⟩) (l.length - (l.length - 1)) (c - (l.length - 1))]).run Tryz.prog W1=.ok (.tuple #[]) (W1.setCells g ((l.length - 1)*11) vs) from fun ty=>by rw [hlen1];exact hclr)
 clear hclr hlen1
 have hin:((l.length - 1:Nat):Int)=(l.length:Int) - 1:=by omega
 have HIN:=Lib.hid hin
 clear hin
 go_wp2_with (first|go_skip|go_guarded|((with_reducible refine isW ?_);refine JP rfl rfl SRAlloc rfl (Qu SRAlloc (k:=l.length - 1) (m:=l.length) (Nat.sub_le _ _) hcA.out (by have:=hcA.out;omega)) ?_)|((with_reducible refine isW ?_);refine Jo rfl _ _ rfl rfl HCL.out ?_))
 go_ret
 have hD:=PH (f:=Ac.cells) (sz:=11) (fun _=>rfl) (cur:=cur.toList) (c1:=cs1.toList) (c2:=cs2.toList) (vs:=vs) hk (by simpa using HCS.out) hcA.out HTK.out hl1 hvs hl2
 refine ⟨rfl,⟨?_,.inr ⟨g,c,cs2,rfl,hbg,hB2,by have:=hcA.out;omega,HMX.out,by rw [hs2,hs1];exact HCS.out,hD⟩⟩,?_⟩
 ·rw [BQ (f:=Ac.cells) (sz:=11) (fun _=>rfl),List.length_eraseIdx_of_lt hk]
 exact (hS1.trans hs2E (fun q hq e=>e)).mono (fun q _ e=>by rw [show q=g from e];rfl)
end
end Go.Proofs.YtccekmeifanipaaGreat
