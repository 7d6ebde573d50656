/- Lemmas. -/
import Derived.Test.YtnlhbdmeodbblaaGreatDoorMiap
set_option maxRecDepth 100000
set_option maxHeartbeats 16000000
set_option linter.all false
open Bool renaming and_eq_true→aW,eq_iff_iff→db,not_eq_true'→en
open List renaming all_eq_true→ep,filter_cons_of_neg→cM,filter_cons_of_pos→dh,getElem_of_mem→fH,length_cons→bA,length_map→aX,map_cons→ev,mem_cons_of_mem→ff,mem_cons_self→dw
open Option renaming some→JV,none→JW
namespace Go.Proofs.YtnlhbdmeodbblaaGreatDoor
open Go Go.RowKit Go.Sort Go.Lib
section
theorem ri {l:List Ent} {st fi la:Int} {e:Ent} (he:e∈l) (h:inQ st fi la e=true):e∈eU l (bG l) st fi la:=by unfold eU;refine List.mem_flatMap.2 ⟨da e,(fG _).mem_iff.2 (List.mem_map_of_mem he),List.mem_filter.2 ⟨he,?_⟩⟩;rw [decide_eq_true rfl,h];rfl
end
section
theorem Dg {l:List Ent} (h:ef l) (st fi la:Int):(eU l (bG l) st fi la).Perm (l.filter (inQ st fi la)):=by
 have hn:=(jS h).2;have h1:(eU l (bG l) st fi la).Perm (eU l (bV l) st fi la):=List.Perm.flatMap_right _ (fG _);refine h1.trans (List.Perm.of_eq ?_)
 have:∀ m:List Ent,(∀ e∈m,e∈l)→(m.map da).flatMap (fun a=>l.filter fun e=>decide (da e=a)&&inQ st fi la e)=m.filter (inQ st fi la):=fun m=>by
  induction m with
  | nil=>exact fun _=>rfl
  | cons e m ih =>
   intro hm;rw [ev,List.flatMap_cons,ih (fun x hx=>hm x (ff _ hx)),yG hn (hm e (dw ..))];by_cases hq:inQ st fi la e=true
   ·rw [if_pos hq,dh hq];rfl
   ·rw [if_neg hq,cM hq];rfl
 exact this l (fun _ h=>h)
theorem EU:(el []).2 ≠ 0:=by decide +kernel
theorem CE {r:LR} {at_:LL} {ids:List Int} {e:Ent} (ho:e.Ok) (hl:e.code.length≤262144) (hd:e.day≤at_.day):lB r at_ (cZ ids e)=if e.id∈ids∧ia r at_ e=true then JV e else JW:=by
 unfold lB cZ;by_cases hi:e.id∈ids
 ·rw [if_pos hi];have hb:(eC e).body.data.toList=e.code:=rfl;rw [hb,wj e ho hl];unfold ia;by_cases hv:eh r e.key ⟨e.body.toArray⟩ e.mark e.day at_.day=0
  ·rw [if_pos ⟨rfl,hd,hv⟩,if_pos ⟨hi,decide_eq_true hv⟩]
  ·rw [if_neg (fun h=>hv h.2.2),if_neg (fun h=>hv (of_decide_eq_true h.2))]
 ·rw [if_neg hi,if_neg,if_neg (fun h=>hi h.1)];exact fun h=>EU h.1
theorem wH {r:LR} {at_:LL} {ids:List Int}:∀ (E:List Ent),(∀ e∈E,e.Ok∧e.code.length≤262144∧e.day≤at_.day)→mh r at_ (E.map (cZ ids))=E.filter fun e=>decide (e.id∈ids)&&ia r at_ e
 | [],_=>rfl
 | e::E,h=>by
  obtain ⟨h1,h2,h3⟩:=h e (dw ..);have ih:=wH (r:=r) (at_:=at_) (ids:=ids) E (fun x hx=>h x (ff _ hx));unfold mh at ih ⊢;rw [ev];have hs:=CE (r:=r) (ids:=ids) h1 h2 h3;by_cases hc:e.id∈ids∧ia r at_ e=true
  ·rw [if_pos hc] at hs;rw [List.filterMap_cons_some hs,ih,dh (by rw [decide_eq_true hc.1,hc.2];rfl)]
  ·rw [if_neg hc] at hs;rw [List.filterMap_cons_none hs,ih,cM (fun hh=>hc (by rw [aW,decide_eq_true_eq] at hh;exact hh))]
theorem ss (ids:List Int):∀ (E:List Ent),(∀ e∈E,0 < e.code.length)→fq (E.map (cZ ids))=(E.filter fun e=>!decide (e.id∈ids)).length
 | [],_=>rfl
 | e::E,h=>by
  have ih:=ss ids E (fun x hx=>h x (ff _ hx));have h0:=h e (dw ..);unfold fq at ih ⊢;rw [ev];have hb:((cZ ids e).body.size==0) = !decide (e.id∈ids):=by
   unfold cZ;by_cases hi:e.id∈ids
   ·rw [if_pos hi,decide_eq_true hi];have:(eC e).body.size=e.code.length:=by rw [bw];rfl
    rw [this,Bool.not_true,beq_eq_false_iff_ne];omega
   ·rw [if_neg hi,decide_eq_false hi];rfl
  by_cases hi:e.id∈ids
  ·rw [cM (by rw [hb,decide_eq_true hi];decide),cM (by rw [decide_eq_true hi];decide),ih]
  ·rw [dh (by rw [hb,decide_eq_false hi];rfl),dh (by rw [decide_eq_false hi];rfl),bA,bA,ih]
theorem Cm (ids:List Int) (E:List Ent) (h:∀ e∈E,dr e=0):gh (E.map (cZ ids))=E.all fun e=>!decide (e.kind=5):=by
 unfold gh;rw [List.all_map,db,ep,ep]
 have key:∀ e∈E,(!((cZ ids e).key.data.toList.getLast? == JV 53)) = !decide (e.kind=5):=fun e he=>by
  obtain ⟨-,-,-,r4,-,-⟩:=mq (h e he);rw [jf,qZ (h e he)];have:(fJ e).getLast? = JV (UInt8.ofNat (48+e.kind.toNat)):=rfl;rw [this]
  congr 1
  rw [db,beq_iff_eq,decide_eq_true_eq,Option.some_inj,← UInt8.toNat_inj,UInt8.toNat_ofNat']
  show (48+e.kind.toNat)%256=53↔_
  omega
 constructor
 ·intro hh e he;rw [← key e he];exact hh e he
 ·intro hh e he;show (!((cZ ids e).key.data.toList.getLast? == JV 53))=true;rw [key e he];exact hh e he
theorem FT {l:List Ent} (h:ef l) {st fi la:Int} {ids:List Int} {y:Ent} (hy:y∈l) (hq:inQ st fi la y=true) (h0:0 < y.code.length) :
  ((eU l (bG l) st fi la).map (cZ ids)).any (fun x=>decide (x.key=dE y) && !decide (x.body.size=0))=decide (y.id∈ids):=by
 have hk:(l.map dE).Nodup:=(fG _).nodup_iff.1 (lv h.2);rw [db,List.any_eq_true,decide_eq_true_eq];constructor
 ·rintro ⟨x,hx,hc⟩;obtain ⟨e,he,rfl⟩:=List.mem_map.1 hx;rw [aW,decide_eq_true_eq,jf,en,decide_eq_false_iff_not] at hc;have he2:=(iA he).1;have hey:e=y:=by
   obtain ⟨i,hi,rfl⟩:=fH he2;obtain ⟨j,hj,rfl⟩:=fH hy;have:=(List.getElem_inj (h₀:=by rw [aX];exact hi) (h₁:=by rw [aX];exact hj) hk).1 (by rw [List.getElem_map,List.getElem_map];exact hc.1);subst this;rfl
  subst hey
  refine Classical.byContradiction fun hn=>hc.2 ?_
  unfold cZ;rw [if_neg hn];rfl
 ·intro hi;refine ⟨cZ ids y,List.mem_map_of_mem (ri hy hq),?_⟩;rw [aW,decide_eq_true_eq,jf,en,decide_eq_false_iff_not];refine ⟨rfl,?_⟩;unfold cZ;rw [if_pos hi];have:(eC y).body.size=y.code.length:=by rw [bw];rfl
  omega
